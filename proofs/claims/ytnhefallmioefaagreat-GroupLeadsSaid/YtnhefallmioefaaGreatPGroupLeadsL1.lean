/- What the law leans on. No condition. -/
import Derived.Test.YtnhefallmioefaaGreatW0
import Derived.Test.YtnhefallmioefaaGreatW1
import Derived.Test.YtnhefallmioefaaGreatW13
set_option maxHeartbeats 8000000
set_option linter.unusedVariables false
set_option linter.unusedSimpArgs false
namespace Go.Proofs.YtnhefallmioefaaGreat.X
set_option maxRecDepth 20000
section
variable {ρ:Type} {z:ρ->Bool} {e:ρ} {s s':Nd ρ} {st n Λ:Nat} {x m:Ms ρ}
def OV (s:Nd ρ):Bool:=(s.OC==(s.own:Int)) && !s.Oy
def rr (s:Nd ρ) (st:Nat):Nat:=st+if OV s then 1 else 0
def cL (s:Nd ρ):Nat:=((s.Oz.drop s.agreed).filter λx=>x.1==s.Ow).length
def el (n Λ r:Nat):Nat:=n*(4+2*r)*Λ+2*(20+10*r)
def ix (n Λ:Nat):Nat->Nat
 | 0=>0
 | r+1=>ix n Λ r+el n Λ r
def pT (s:Nd ρ) (st j:Nat):Nat:=2*(s.next.getD j 0 - s.OE.getD j 0)+(2+2*st)*(s.Oz.length - s.OE.getD j 0)
def rb (n:Nat) (s:Nd ρ) (st:Nat):Nat:=(db n λj=>if j=s.own then 0 else pT s st j)+(20+10*st)*cL s
def dM (n Λ:Nat) (s:Nd ρ) (st:Nat):Nat:=ix n Λ (rr s st)+if s.Oy then rb n s st else 0
def fY (s:Nd ρ) (st:Nat) (x:Ms ρ):Nat:=2+2*rr s st+if s.Oy then (if x.N.getD 0 0<s.Ow then 2 else if x.N.getD 0 0=s.Ow/\s.OE.getD x.dst.toNat 0<(x.N.getD 1 0).toNat then 2 else 0) else 0
def rS (s:Nd ρ) (st:Nat) (x:Ms ρ):Nat:=1+2*rr s st+if s.Oy=true/\x.N.getD 0 0=s.Ow then 2 else 0
theorem wj (s:Nd ρ) (st:Nat) (x:Ms ρ):2<=fY s st x:=by unfold fY;omega
theorem zy (s:Nd ρ) (st:Nat) (x:Ms ρ):1<=rS s st x:=by unfold rS;omega
theorem gC (h:s.Oy=true):rr s st=st:=by unfold rr OV;rw [h];simp
theorem qi (h:s.Oy=true):fY s st x<=4+2*st:=by
 grind [fY,gC]
theorem pU (n Λ:Nat) {a b:Nat} (h:a<=b):ix n Λ a<=ix n Λ b:=by
 induction b with
 | zero=>rw [show a=0 by omega];exact ah _
 | succ b ih =>
  by_cases e:a=b+1
  ·rw [e];exact ah _
  ·grind [ix,el]
structure Ru (n Λ st:Nat) (s s':Nd ρ):Prop where
 lay:∀x:Ms ρ,fY s' st x<=fY s st x
 no:∀x:Ms ρ,rS s' st x<=rS s st x
theorem Ru.refl:Ru n Λ st s s:=⟨λ_=>ah _,λ_=>ah _⟩
theorem Ru.trans {s2:Nd ρ} (h:Ru n Λ st s s') (k:Ru n Λ st s' s2):Ru n Λ st s s2:=⟨λx=>aF (k.lay x) (h.lay x),λx=>aF (k.no x) (h.no x)⟩
theorem tg (t:Int) (h:s.Ow<t):Ru n Λ st s (enter s t (-1))/\dM n Λ (enter s t (-1)) st<=dM n Λ s st/\(enter s t (-1)).Oy=false/\rr (enter s t (-1)) st=st:=by
 have hl:(enter s t (-1)).Oy=false:=by unfold enter;simp [h]
 have hc:OV (enter s t (-1))=false:=JM;have hr:rr (enter s t (-1)) st=st:=by unfold rr;rw [hc];simp
 have hr2:st<=rr s st:=by unfold rr;omega
 refine ⟨⟨λx=>?_,λx=>?_⟩,?_,hl,hr⟩
 ·grind [fY,bk]
 ·grind [rS,bk]
 ·unfold dM;rw [hr,hl];simp only [bk,if_false];have:=pU n Λ hr2;omega
theorem jh (h1:s'.own=s.own) (h2:s'.Oy=s.Oy) (h3:s'.Ow=s.Ow) (h4:s'.OE=s.OE) (h5:OV s'=OV s):Ru n Λ st s s':=by
 have hr:rr s' st=rr s st:=by unfold rr;rw [h5]
 exact ⟨λx=>by unfold fY;rw [hr,h2,h3,h4];exact ah _,λx=>by unfold rS;rw [hr,h2,h3];exact ah _⟩
theorem pQ (h1:s.Oy=false) (h2:s'.Oy=false) (h5:OV s'=OV s):dM n Λ s' st=dM n Λ s st:=by
 unfold dM rr;rw [h1,h2,h5];rfl
theorem nN (QJ:s.agreed<=s.Oz.length):((X.settle z s).1=true->cL (X.settle z s).2+1<=cL s)/\((X.settle z s).1=false->cL (X.settle z s).2=cL s):=by
 unfold X.settle;split
 ·rename_i k hk;obtain ⟨h1,h2,h3,h4⟩:=iW _ _ _ hk;have h2:s.agreed<k:=h2;refine ⟨λ_=>?_,λh=>by cases h⟩;have e1:cL (agree z { s with OE:=s.OE.set s.own s.Oz.length } k)=((s.Oz.drop k).filter λx=>x.1==s.Ow).length:=by
   unfold agree cL;rw [ay h2]
  rw [e1];obtain ⟨j,rfl⟩:∃j,k=j+1:=⟨k - 1,by omega⟩
  have hj:j<s.Oz.length:=az;have h3:s.Oz[j].1=s.Ow:=by
   grind [bC,cf]
  have e2:s.Oz.drop s.agreed=(s.Oz.drop s.agreed).take (j - s.agreed)++s.Oz[j]::s.Oz.drop (j+1):=by
   have h5:(s.Oz.drop s.agreed).drop (j - s.agreed)=s.Oz[j]::s.Oz.drop (j+1):=by
    rw [LK,show s.agreed+(j - s.agreed)=j by omega,dP hj]
   rw [<-h5,eI]
  unfold cL;rw [e2,cz,aE,fA];have:(s.Oz[j].1==s.Ow)=true:=by simpa using h3
  rw [ay this,aX];omega
 ·exact ⟨λh=>kD,λ_=>rfl⟩
end
section
variable {ρ:Type} {z:ρ->Bool} {e:ρ} {s s':Nd ρ} {st n Λ:Nat} {x m:Ms ρ}
theorem i8 (h1:s'.own=s.own) (h2:s'.Oy=s.Oy) (h3:s'.Ow=s.Ow) (h4:s'.OE=s.OE) (h5:OV s'=OV s) (h6:s'.next=s.next) (h7:s'.Oz=s.Oz) (h8:s'.agreed=s.agreed):dM n Λ s' st=dM n Λ s st:=by
 grind [dM,rr,rb,pT,cL]
theorem Iz (ho:¬m.OD=(s.own:Int)):Ru n Λ st s (asked s m).2/\dM n Λ (asked s m).2 st=dM n Λ s st/\(∀x∈(asked s m).1,x.kind=2)/\(asked s m).1.length<=1:=by
 have hc:∀t:Nat,s.OC = -1->OV { enter s s.Ow m.OD with Ox:=t }=OV s:=λt h=>by
  grind [OV,enter]
 have hl:(enter s s.Ow m.OD).Oy=s.Oy:=by unfold enter;simp
 unfold asked;split
 ·simp only;split
  ·split
   ·rename_i h1;have h1:s.OC = -1:=Bo;refine ⟨jh rfl hl rfl rfl (hc 0 h1),i8 rfl hl rfl rfl (hc 0 h1) rfl rfl rfl,λx hx=>?_,by simp⟩;rw [aj.1 hx];rfl
   ·refine ⟨jh rfl rfl rfl rfl rfl,i8 rfl rfl rfl rfl rfl rfl rfl rfl,λx hx=>?_,by simp⟩;rw [aj.1 hx];rfl
  ·refine ⟨Ru.refl,rfl,λx hx=>?_,by simp⟩;rw [aj.1 hx];rfl
 ·grind [Ru.refl]
theorem ij (n c:Nat) (g:Nat->Nat) (h:∀j,j<n->g j<=c):db n g<=n*c:=by
 induction n with
 | zero=>exact aH _
 | succ n ih=>rw [dj,nD];have:=ih λj hj=>h j az;have:=h n az;omega
theorem wZ (n Λ r:Nat):ix n Λ (r+1)=ix n Λ r+el n Λ r:=rfl
theorem qB {α:Type} (l:List α) (g:α->Nat) (c:Nat) (h:∀x∈l,g x<=c):(l.map g).sum<=l.length*c:=by
 induction l with
 | nil=>simp
 | cons a l ih =>
  rw [bJ,fC,aX,nD];exact Jw
theorem Hj (hc:OV s=true) (hn:s.n=n) (hΛ:s.Oz.length+1<=Λ) (QJ:s.agreed<=s.Oz.length) (O8:n<=5) :
  Ru n Λ st s (lead z e s).2/\dM n Λ (lead z e s).2 st+((lead z e s).1.map (fY (lead z e s).2 st)).sum<=dM n Λ s st+(20+10*st)*cL s/\(∀x∈(lead z e s).1,x.kind=3/\x.OD=(s.own:Int)):=by
 obtain ⟨g1,g2,g3,g4,g5,g6,g7,g8,g9,ZU,g11,g12,g13⟩:=df (z:=z) (s:=place { s with Oy:=true,next:=List.replicate s.n s.Oz.length,OE:=List.replicate s.n 0 } s.Oz.length (s.Ow,e));have hL:=ee (z:=z) (e:=e) s;have SD:s.Oy=false:=Nn;have WM:rr s st=st+1:=by unfold rr;rw [hc];rfl
 have hr1:rr (lead z e s).2 st=st:=gC hL.Oy;have hus:cL (lead z e s).2<=cL s+1:=by
  have h1:=nN (z:=z) (s:=place { s with Oy:=true,next:=List.replicate s.n s.Oz.length,OE:=List.replicate s.n 0 } s.Oz.length (s.Ow,e)) (by
   show s.agreed<=(s.Oz.take s.Oz.length++[(s.Ow,e)]).length;simp;omega)
  have h2:cL (place { s with Oy:=true,next:=List.replicate s.n s.Oz.length,OE:=List.replicate s.n 0 } s.Oz.length (s.Ow,e))<=cL s+1:=by
   show (((s.Oz.take s.Oz.length++[(s.Ow,e)]).drop s.agreed).filter λx=>x.1==s.Ow).length<=cL s+1;rw [bW,qo QJ,cz,aE];have h3:=cX (λx:Int×ρ=>x.1==s.Ow) [(s.Ow,e)];rw [List.length_singleton] at h3;unfold cL;omega
  show cL (X.settle z _).2<=cL s+1;cases hq:(X.settle z (place { s with Oy:=true,next:=List.replicate s.n s.Oz.length,OE:=List.replicate s.n 0 } s.Oz.length (s.Ow,e))).1 with
  | true=>have:=h1.1 hq;omega
  | false=>rw [h1.2 hq];exact h2
 have hlen:(lead z e s).2.Oz.length<=Λ:=by rw [hL.len];exact hΛ
 have Sh:∀j,(lead z e s).2.next.getD j 0<=Λ:=λj=>by
  show (X.settle z _).2.next.getD j 0<=Λ;rw [g9];show (List.replicate s.n s.Oz.length).getD j 0<=Λ;rw [aL,Cl];split
  ·show s.Oz.length<=Λ;omega
  ·exact aH _
 have hgap:∀j,pT (lead z e s).2 st j<=(4+2*st)*Λ:=λj=>by
  unfold pT;have h1:2*((lead z e s).2.next.getD j 0 - (lead z e s).2.OE.getD j 0)<=2*Λ:=by have:=Sh j;omega
  have h2:(2+2*st)*((lead z e s).2.Oz.length - (lead z e s).2.OE.getD j 0)<=(2+2*st)*Λ:=fi _ az;have h3:(4+2*st)*Λ=2*Λ+(2+2*st)*Λ:=by rw [<-Nat.add_mul];congr 1;omega
  omega
 have Rn:((lead z e s).1.map (fY (lead z e s).2 st)).sum<=20+10*st:=by
  have h1:(lead z e s).1.length<=5:=by
   rw [hL.ms];have:=qP (lead z e s).2 (bI (lead z e s).2);rw [hL.n,hn] at this;omega
  have h2:=qB (lead z e s).1 (fY (lead z e s).2 st) (4+2*st) (λx _=>qi hL.Oy);have h3:(lead z e s).1.length*(4+2*st)<=5*(4+2*st):=jM _ h1;omega
 refine ⟨⟨λx=>?_,λx=>?_⟩,?_,λx hx=>?_⟩
 ·unfold fY;rw [hr1,WM,hL.Oy,SD];simp only [if_true,bk,if_false];split
  ·omega
  ·split<;>omega
 ·unfold rS;rw [hr1,WM,hL.Oy,SD];simp only [true_and,bk,false_and,if_false];split<;>omega
 ·unfold dM;rw [hr1,WM,hL.Oy,SD];simp only [if_true,bk,if_false];rw [wZ];unfold rb el;have h1:=ij n ((4+2*st)*Λ) (λj=>if j=(lead z e s).2.own then 0 else pT (lead z e s).2 st j) (λj _=>by
   show (if _ then 0 else _)<=_;split
   ·exact aH _
   ·exact hgap j)
  rw [<-Nat.mul_assoc] at h1;have h2:(20+10*st)*cL (lead z e s).2<=(20+10*st)*(cL s+1):=fi _ hus;rw [Nat.mul_add,Nat.mul_one] at h2;generalize (20+10*st)*cL (lead z e s).2=a1 at *;generalize (20+10*st)*cL s=a2 at *;omega
 ·rw [hL.ms] at hx;unfold cP at hx;obtain ⟨d,_,rfl⟩:=d7.1 hx;exact ⟨rfl,by show (((lead z e s).2.own:Nat):Int)=_;rw [hL.own]⟩
theorem jd (n i:Nat) (g g':Nat->Nat) (hi:i<n) (h:∀j,j≠i->g' j=g j):db n g'+g i=db n g+g' i:=by
 induction n with
 | zero=>omega
 | succ n ih =>
  rw [dj,dj];by_cases e:i=n
  ·grind [jf]
  ·grind
theorem Ge (hn:s.n=n) (O8:n<=5) (QJ:s.agreed<=s.Oz.length) (hΛ:(O4 z e s m).2.Oy=true->s.Oy=false->s.Oz.length+1<=Λ) :
  Ru n Λ st s (O4 z e s m).2/\dM n Λ (O4 z e s m).2 st+((O4 z e s m).1.map (fY (O4 z e s m).2 st)).sum<=dM n Λ s st+(if (O4 z e s m).2.Oy=true/\s.Oy=false then (20+10*st)*cL s else 0)/\(∀x∈(O4 z e s m).1,x.kind=3/\x.OD=(s.own:Int)):=by
 unfold O4 at hΛ ⊢;split
 ·grind [Ru.refl]
 ·rename_i hg;rw [am hg] at hΛ;simp only [bi,bb,not_or,gp,dy] at hg;obtain ⟨⟨⟨h1,h2⟩,h3⟩,h4⟩:=hg;have hc:OV s=true:=by unfold OV;rw [h1];simpa using h3
  simp only at hΛ ⊢;have hs:Ru n Λ st s { s with OB:=s.OB.set m.OD.toNat true }:=jh rfl rfl rfl rfl rfl;have hw:dM n Λ { s with OB:=s.OB.set m.OD.toNat true } st=dM n Λ s st:=i8 rfl rfl rfl rfl rfl rfl rfl rfl;split
  ·rename_i hch;rw [ay hch] at hΛ;have k1:=hΛ (ee _).Oy h1;obtain ⟨g1,g2,g3⟩:=Hj (z:=z) (e:=e) (st:=st) (Λ:=Λ) (s:={ s with OB:=s.OB.set m.OD.toNat true }) hc hn k1 QJ O8;refine ⟨hs.trans g1,?_,g3⟩;rw [ay ⟨(ee _).Oy,h1⟩,<-hw];exact g2
  ·grind
theorem Gw (h1:s'.own=s.own) (h2:s'.Oy=s.Oy) (h3:s'.Ow=s.Ow) (h5:OV s'=OV s) (h4:∀x:Ms ρ,s'.Oy=true->x.N.getD 0 0=s.Ow->s'.OE.getD x.dst.toNat 0<(x.N.getD 1 0).toNat->s.OE.getD x.dst.toNat 0<(x.N.getD 1 0).toNat):Ru n Λ st s s':=by
 have hr:rr s' st=rr s st:=by unfold rr;rw [h5]
 refine ⟨λx=>?_,λx=>by unfold rS;rw [hr,h2,h3];exact ah _⟩;unfold fY;rw [hr,h2,h3];split
 ·grind
 ·omega
end
section
variable {ρ:Type} {z:ρ->Bool} {e:ρ} {s s':Nd ρ} {st n Λ:Nat} {x m:Ms ρ}
theorem mQ (h:s.Oy=true):dM n Λ s st=ix n Λ st+rb n s st:=by
 unfold dM;rw [gC h,h];rfl
theorem vH (c a b:Nat) (h:a+1<=b):c*a+c<=c*b:=by
 have:=fi c h;rw [Nat.mul_add,Nat.mul_one] at this;exact this
theorem yZ (Pr:LN s) (hn:s.n=n) (O8:n<=5) (ho:s.own<n) (hf:m.OD.toNat<n) (R5:m.OD.toNat≠s.own) (QJ:s.agreed<=s.Oz.length) :
  Ru n Λ st s (answered z s m).2/\dM n Λ (answered z s m).2 st+((answered z s m).1.map (fY (answered z s m).2 st)).sum+1<=dM n Λ s st+(if m.N.getD 1 0=0 then rS s st m else 1)/\(∀x∈(answered z s m).1,x.kind=3/\x.OD=(s.own:Int)):=by
 have hnil:Ru n Λ st s s/\dM n Λ s st+(([]:List (Ms ρ)).map (fY s st)).sum+1<=dM n Λ s st+(if m.N.getD 1 0=0 then rS s st m else 1)/\(∀x∈([]:List (Ms ρ)),x.kind=3/\x.OD=(s.own:Int)):=by
  grind [Ru.refl,zy]
 unfold answered;split
 ·exact hnil
 ·rename_i hg;simp only [bi,bb,not_or,gp,dy,cE,eP,Og] at hg;obtain ⟨⟨⟨⟨hl,ht⟩,h3⟩,h2⟩,h5⟩:=hg;have hln2:s.next.length=n:=by rw [Pr.nl,hn]
  have hlm:s.OE.length=n:=by rw [Pr.ml,hn]
  have ZM:=Pr.mn hl m.OD.toNat R5;simp only;by_cases hN:m.N.getD 1 0=0
  ·rw [ay hN,ay hN];rw [ay hN] at hnil;split
   ·exact hnil
   ·generalize (m.N.getD 2 0).toNat=k at *;generalize hwho:m.OD.toNat=who at *;have hno:rS s st m=3+2*st:=by
     grind [rS,gC]
    have PH:({ s with next:=s.next.set who (max k (s.OE.getD who 0))}:Nd ρ).Oy=true:=hl;refine ⟨jh rfl rfl rfl rfl rfl,?_,λx hx=>?_⟩
    ·rw [mQ PH,mQ hl,hno,bJ,iU,fC,tw];have hly:fY ({ s with next:=s.next.set who (max k (s.OE.getD who 0))}:Nd ρ) st (bI { s with next:=s.next.set who (max k (s.OE.getD who 0))} who)=2+2*st+(if s.OE.getD who 0<k then 2 else 0):=by
      obtain ⟨p1,p2,p3,p4,p5,p6,p7⟩:=fx ({ s with next:=s.next.set who (max k (s.OE.getD who 0))}:Nd ρ) who;unfold fY;rw [gC PH,p4,p5,p2,ay PH,am (Int.lt_irrefl _)];have e1:(s.next.set who (max k (s.OE.getD who 0))).getD who 0=max k (s.OE.getD who 0):=by
       grind
      show 2+2*st+(if s.Ow=s.Ow/\s.OE.getD ((who:Nat):Int).toNat 0<(((s.next.set who (max k (s.OE.getD who 0))).getD who 0:Nat):Int).toNat then 2 else 0)=_;rw [e1,bU,bU];by_cases h9:s.OE.getD who 0<k
      ·rw [ay h9,ay ⟨rfl,by omega⟩]
      ·grind
     rw [hly];unfold rb;have e2:=jd n who (λj=>if j=s.own then 0 else pT s st j) (λj=>if j=s.own then 0 else pT { s with next:=s.next.set who (max k (s.OE.getD who 0))} st j) hf (λj hj=>by
      split
      ·rfl
      ·unfold pT;show 2*((s.next.set who _).getD j 0 - s.OE.getD j 0)+_=_;rw [eE _ _ _ _ (by rw [hln2];exact hf),am hj])
     simp only [am R5] at e2;have e3:pT ({ s with next:=s.next.set who (max k (s.OE.getD who 0))}:Nd ρ) st who=2*(max k (s.OE.getD who 0) - s.OE.getD who 0)+(2+2*st)*(s.Oz.length - s.OE.getD who 0):=by
      grind [pT,eE]
     have e4:pT s st who=2*(s.next.getD who 0 - s.OE.getD who 0)+(2+2*st)*(s.Oz.length - s.OE.getD who 0):=rfl;have e5:cL ({ s with next:=s.next.set who (max k (s.OE.getD who 0))}:Nd ρ)=cL s:=rfl;rw [e5];show ix n Λ st+((db n λj=>if j=s.own then 0 else pT { s with next:=s.next.set who (max k (s.OE.getD who 0))} st j)+(20+10*st)*cL s)+_+1<=_;rw [e3,e4] at e2;generalize (2+2*st)*(s.Oz.length - s.OE.getD who 0)=c1 at *;generalize (20+10*st)*cL s=c2 at *;generalize (db n λj=>if j=s.own then 0 else pT { s with next:=s.next.set who (max k (s.OE.getD who 0))} st j)=c3 at *;generalize (db n λj=>if j=s.own then 0 else pT s st j)=c4 at *;generalize ix n Λ st=c5 at *;split<;>omega
    ·rw [aj.1 hx];exact ⟨rfl,rfl⟩
  ·rw [am hN,am hN];rw [am hN] at hnil;split
   ·exact hnil
   ·rename_i hk;have hk:s.OE.getD m.OD.toNat 0<(m.N.getD 2 0).toNat:=az;have hkl:(m.N.getD 2 0).toNat<=s.Oz.length:=az;generalize (m.N.getD 2 0).toNat=k at *;generalize hwho:m.OD.toNat=who at *;obtain ⟨g1,g2,g3,g4,g5,g6,g7,g8,g9,ZU,g11,g12,g13⟩:=df (z:=z) (s:={ s with OE:=s.OE.set who k,next:=s.next.set who (max k (s.next.getD who 0))});have hus:=nN (z:=z) (s:={ s with OE:=s.OE.set who k,next:=s.next.set who (max k (s.next.getD who 0))}) QJ;have Vs:cL ({ s with OE:=s.OE.set who k,next:=s.next.set who (max k (s.next.getD who 0))}:Nd ρ)=cL s:=rfl;rw [Vs] at hus;have Ve:∀j,(X.settle z { s with OE:=s.OE.set who k,next:=s.next.set who (max k (s.next.getD who 0))}).2.OE.getD j 0=if j=s.own then s.Oz.length else if j=who then k else s.OE.getD j 0:=λj=>by
     grind
    have Rm:∀j,(X.settle z { s with OE:=s.OE.set who k,next:=s.next.set who (max k (s.next.getD who 0))}).2.next.getD j 0=if j=who then max k (s.next.getD who 0) else s.next.getD j 0:=λj=>by
     grind
    generalize X.settle z { s with OE:=s.OE.set who k,next:=s.next.set who (max k (s.next.getD who 0))}=p at *;obtain ⟨tr,s1⟩:=p;simp only at g1 g2 g3 g4 g5 g6 g7 g8 g9 ZU g11 g12 g13 hus Ve Rm ⊢;have g1:s1.own=s.own:=g1;have g5:s1.Oy=s.Oy:=g5;have g6:s1.Ow=s.Ow:=g6;have g8:s1.Oz=s.Oz:=g8;have g2:s1.n=n:=by rw [g2];exact hn
    have PH:s1.Oy=true:=by rw [g5];exact hl
    have hc1:OV s1=OV s:=by unfold OV;rw [PH,hl];simp
    have ZJ:Ru n Λ st s s1:=Gw g1 g5 g6 hc1 (λx _ _ hx=>by
     rw [Ve] at hx;by_cases e1:x.dst.toNat=s.own
     ·rw [ay e1] at hx;rw [e1];have:=(Pr.qs hl).2;omega
     ·rw [am e1] at hx;by_cases e2:x.dst.toNat=who
      ·rw [ay e2] at hx;rw [e2];omega
      ·rw [am e2] at hx;exact hx)
    have hgo:∀j,j≠who->(if j=s1.own then 0 else pT s1 st j)=(if j=s.own then 0 else pT s st j):=λj hj=>by
     grind [pT]
    have e2:=jd n who (λj=>if j=s.own then 0 else pT s st j) (λj=>if j=s1.own then 0 else pT s1 st j) hf hgo;have hfo1:¬who=s1.own:=by rw [g1];exact R5
    simp only [am R5,am hfo1] at e2;have e3:pT s1 st who=2*(max k (s.next.getD who 0) - k)+(2+2*st)*(s.Oz.length - k):=by
     grind [pT]
    have e4:pT s st who=2*(s.next.getD who 0 - s.OE.getD who 0)+(2+2*st)*(s.Oz.length - s.OE.getD who 0):=rfl;have e6:=vH (2+2*st) (s.Oz.length - k) (s.Oz.length - s.OE.getD who 0) az;rw [e3,e4] at e2;have Ro:∀ms:List (Ms ρ),(ms.map (fY s1 st)).sum+(20+10*st)*cL s1+(2*(max k (s.next.getD who 0) - k)+(2+2*st)*(s.Oz.length - k))<=(20+10*st)*cL s+(2*(s.next.getD who 0 - s.OE.getD who 0)+(2+2*st)*(s.Oz.length - s.OE.getD who 0))->dM n Λ s1 st+(ms.map (fY s1 st)).sum+1<=dM n Λ s st+1:=λms h9=>by
     grind [mQ,rb,cL,fY,db,pT]
    split
    ·rename_i htr;refine ⟨ZJ,Ro _ ?_,λx hx=>?_⟩
     ·have h1:=hus.1 htr;have h2:=vH (20+10*st) (cL s1) (cL s) h1;have h3:=qB (cP s1 (bI s1)) (fY s1 st) (4+2*st) (λx _=>qi PH);have h4:(cP s1 (bI s1)).length<=5:=by have:=qP s1 (bI s1);rw [g2] at this;omega
      have h5:(cP s1 (bI s1)).length*(4+2*st)<=5*(4+2*st):=jM _ h4;generalize (cP s1 (bI s1)).length*(4+2*st)=a0 at *;generalize (2+2*st)*(s.Oz.length - k)=a1 at *;generalize (2+2*st)*(s.Oz.length - s.OE.getD who 0)=a2 at *;generalize (20+10*st)*cL s1=a3 at *;generalize (20+10*st)*cL s=a4 at *;generalize ((cP s1 (bI s1)).map (fY s1 st)).sum=a5 at *;omega
     ·unfold cP at hx;obtain ⟨d,_,rfl⟩:=d7.1 hx;exact IM
    ·rename_i htr;have htr:tr=false:=by simpa using htr
     have h1:cL s1=cL s:=hus.2 htr;split
     ·refine ⟨ZJ,Ro _ ?_,λx hx=>?_⟩
      ·rw [bJ,iU,fC,tw,h1];have hly:fY s1 st (bI s1 who)<=2+2*st+(if k<s.next.getD who 0 then 2 else 0):=by
        obtain ⟨p1,p2,p3,p4,p5,p6,p7⟩:=fx s1 who;unfold fY;rw [gC PH,p4,p5,p2,ay PH,am (Int.lt_irrefl _),Rm,ay rfl,bU,bU,Ve,am R5,ay rfl];by_cases h9:k<s.next.getD who 0
        ·rw [ay h9];split<;>omega
        ·grind
       generalize (2+2*st)*(s.Oz.length - k)=a1 at *;generalize (2+2*st)*(s.Oz.length - s.OE.getD who 0)=a2 at *;generalize (20+10*st)*cL s=a4 at *;split at hly<;>omega
      ·rw [aj.1 hx];exact IM
     ·grind
end
section
variable {ρ:Type} {z:ρ->Bool} {e:ρ} {s s':Nd ρ} {st n Λ i:Nat} {x m:Ms ρ}
def uN (s:Nd ρ) (st:Nat) (m:Ms ρ):Nat:=if m.kind=1 then 2 else if m.kind=4/\m.N.getD 1 0=0 then rS s st m else 1
def t6 (s:Nd ρ) (st:Nat) (x:Ms ρ):Nat:=if x.kind=3 then fY s st x else 1
theorem uk (s:Nd ρ) (st:Nat) (m:Ms ρ):1<=uN s st m:=by
 unfold uN;split
 ·omega
 ·split
  ·exact zy s st m
  ·exact ah _
theorem LU (s:Nd ρ) (st:Nat) (l:List (Ms ρ)) (h:∀x∈l,x.kind=3):(l.map (t6 s st)).sum=(l.map (fY s st)).sum:=by
 grind [kP,t6]
theorem NU (s:Nd ρ) (st:Nat) (l:List (Ms ρ)) (h:∀x∈l,x.kind=2) (hl:l.length<=1):(l.map (t6 s st)).sum<=1:=by
 have:=qB l (t6 s st) 1 (λx hx=>by unfold t6;rw [am (by rw [h x hx];decide)];exact ah _);omega
theorem uu (hk:m.kind≠3) (Pr:LN s) (hn:s.n=n) (O8:n<=5) (ho:s.own<n) (hf:m.OD.toNat<n) (SL:0<=m.OD) (R5:¬m.OD=(s.own:Int)) (QJ:s.agreed<=s.Oz.length) (hΛ:(OJ z e s m).2.Oy=true->s.Oy=false->s.Oz.length+1<=Λ) :
  Ru n Λ st s (OJ z e s m).2/\dM n Λ (OJ z e s m).2 st+((OJ z e s m).1.map (t6 (OJ z e s m).2 st)).sum+1<=dM n Λ s st+(if (OJ z e s m).2.Oy=true/\s.Oy=false then (20+10*st)*cL s else 0)+uN s st m:=by
 have hp:=uk s st m;unfold OJ at hΛ ⊢;by_cases k1:m.kind=1
 ·grind [Iz,NU,asked,uN]
 rw [am k1] at hΛ ⊢;by_cases k2:m.kind=2
 ·grind [Ge,LU]
 rw [am k2] at hΛ ⊢;rw [am hk] at hΛ ⊢;by_cases k4:m.kind=4
 ·grind [yZ,LU,uN,rS]
 rw [am k4] at hΛ ⊢;split
 ·split
  ·have hw:=i8 (s:=s) (s':={ s with heard:=s.heard.set m.OD.toNat ((s.OA:Int),m.N.getD 1 0,m.N.getD 2 0)}) (n:=n) (Λ:=Λ) (st:=st) rfl rfl rfl rfl rfl rfl rfl rfl;refine ⟨jh rfl rfl rfl rfl rfl,?_⟩;simp only [iU,tw];rw [hw];omega
  ·grind [Ru.refl]
 ·grind [Ru.refl]
theorem uf (p:Nat) (l:List (Int×ρ)):∀(j:Nat) (s:Nd ρ),(bH p l j s).2.OC=s.OC:=by
 induction l with
 | nil=>intro j s;rfl
 | cons a l ih =>
  intro j s;unfold bH;split
  ·exact ih _ _
  ·split
   ·rfl
   ·rw [ih];rfl
theorem qU (h1:s.Oy=false) (h2:s'.Oy=false) (h5:OV s'=OV s):Ru n Λ st s s':=by
 have hr:rr s' st=rr s st:=by unfold rr;rw [h5]
 exact ⟨λx=>by unfold fY;rw [hr,h1,h2];exact ah _,λx=>by unfold rS;rw [hr,h1,h2];simp⟩
theorem ue (ht:m.N.getD 0 0<=s.Ow):Ru n Λ st s (lays z s m).2/\dM n Λ (lays z s m).2 st=dM n Λ s st/\(lays z s m).2.Oy=s.Oy/\(lays z s m).1.length<=1 /\
  ∀x∈(lays z s m).1,x.kind=4/\x.dst=m.OD/\x.N.getD 0 0=s.Ow/\(x.N.getD 1 0=0->m.N.getD 0 0<s.Ow\/nf s (m.N.getD 1 0) (m.N.getD 2 0)=false):=by
 unfold lays;split
 ·grind [Ru.refl]
 ·split
  ·rename_i h1;refine ⟨Ru.refl,rfl,rfl,by simp,λx hx=>?_⟩;rw [aj.1 hx];exact ⟨rfl,rfl,rfl,λ_=>.inl h1⟩
  ·have hl:s.Oy=false:=by
    grind
   simp only;split
   ·obtain ⟨b1,b2,b3,b4,b5,b6,b7⟩:=iJ (m.N.getD 1 0).toNat ((m.N.drop 4).zip m.B) 0 ({ s with Ox:=0 }:Nd ρ);have b8:=uf (m.N.getD 1 0).toNat ((m.N.drop 4).zip m.B) 0 ({ s with Ox:=0 }:Nd ρ);generalize bH (m.N.getD 1 0).toNat ((m.N.drop 4).zip m.B) 0 ({ s with Ox:=0 }:Nd ρ)=p at *;obtain ⟨ok,s1⟩:=p;have b5:s1.Oy=false:=b5.trans hl;split
    ·obtain ⟨c1,c2,c3,c4,c5,c6,c7,c8⟩:=gE (z:=z) s1 (min (m.N.getD 3 0) (((m.N.getD 1 0).toNat+m.B.length:Nat):Int)).toNat;have c9:(X.agree z s1 (min (m.N.getD 3 0) (((m.N.getD 1 0).toNat+m.B.length:Nat):Int)).toNat).OC=s1.OC:=Hb;generalize X.agree z s1 (min (m.N.getD 3 0) (((m.N.getD 1 0).toNat+m.B.length:Nat):Int)).toNat=s2 at *;have d5:s2.Oy=false:=c5.trans b5;have hc2:OV s2=OV s:=by unfold OV;rw [c1,d5,c9,b1,b8,hl]
     refine ⟨qU hl d5 hc2,pQ hl d5 hc2,d5.trans hl.symm,by simp,λx hx=>?_⟩;rw [aj.1 hx];refine ⟨rfl,rfl,by show s2.Ow=s.Ow;rw [c4,b4],λh=>?_⟩;have h:(1:Int)=0:=h;omega
    ·grind [OV,qU,pQ]
   ·rename_i SJ;refine ⟨jh rfl rfl rfl rfl rfl,i8 rfl rfl rfl rfl rfl rfl rfl rfl,rfl,by simp,λx hx=>?_⟩;rw [aj.1 hx];exact ⟨rfl,rfl,rfl,λ_=>.inr (by have h9:¬nf s (m.N.getD 1 0) (m.N.getD 2 0)=true:=SJ;simpa only [gp] using h9)⟩
end
section
variable {ρ:Type} {z:ρ->Bool} {e:ρ} {s s':Nd ρ} {st n Λ i:Nat} {b:Int} {x m:Ms ρ} {S S':Cs ρ} {G G':Gh ρ} {q:List (Ms ρ)}
def kR (S:Cs ρ) (st:Nat->Nat) (m:Ms ρ):Nat :=
 if m.kind=3 then fY (S.nd m.OD.toNat) (st m.OD.toNat) m else uN (S.nd m.dst.toNat) (st m.dst.toNat) m
def iZ (G:Gh ρ) (s:Nd ρ) (st i:Nat):Nat:=if OV s=true/\G.O7 s.Ow=some i then (20+10*st)*cL s else 0
def fB (n Λ:Nat) (G:Gh ρ) (S:Cs ρ) (st:Nat->Nat) (i:Nat):Nat:=if S.up i=true then dM n Λ (S.nd i) (st i)+iZ G (S.nd i) (st i) i else 0
def WW (n Λ:Nat) (G:Gh ρ) (S:Cs ρ) (st:Nat->Nat):Nat:=(S.q.map (kR S st)).sum+db n (fB n Λ G S st)
theorem Gc (S:Cs ρ) (st:Nat->Nat) (m:Ms ρ):1<=kR S st m:=by
 grind [kR,wj,uk]
theorem zK (h:Ru n Λ st s s') (m:Ms ρ):uN s' st m<=uN s st m:=by
 unfold uN;split
 ·exact ah _
 ·split
  ·exact h.no m
  ·exact ah _
theorem CY (hg:GI n G) (h:NI z n G i s) (hc:s.OC=(i:Int)) (hl:G.O7 s.Ow=none):cL s=0:=by
 obtain ⟨c,l,b,h1,h2⟩:∃c l b,s.OC=((c:Nat):Int)/\G.V i s.Ow=some (c,l,b):=by
  grind [h.ch]
 have VX:c=i:=by rw [hc] at h1;omega
 subst VX;have h3:=(h.S8 l b h2).1 hl;obtain ⟨_,h4,_,h5⟩:=hg.V _ _ _ _ _ h2;unfold cL;rw [bP,List.filter_eq_nil_iff];intro x hx;have hx:=gV hx;rw [h3] at hx;obtain ⟨k,hk,rfl⟩:=sn hx;have h6:=h4.up (k+1) l.length az (ah _);rw [mW _ _ hk] at h6;simp;omega
theorem i9 (hk:m.kind≠3) (h:(OJ z e s m).2.Oy=true) (h0:s.Oy=false):(OJ z e s m).2.Oz.length=s.Oz.length+1/\m.kind=2/\OV s=true:=by
 unfold OJ at h ⊢;by_cases k1:m.kind=1
 ·grind [asked,enter]
 rw [am k1] at h ⊢;by_cases k2:m.kind=2
 ·rw [ay k2] at h ⊢;unfold O4 at h ⊢;split at h
  ·simp [h0] at h
  ·rename_i hg;rw [am hg];simp only [bi,bb,not_or,gp,dy] at hg;obtain ⟨⟨⟨h1,h2⟩,h3⟩,h4⟩:=hg;have hc:OV s=true:=by unfold OV;rw [h1];simpa using h3
   simp only at h ⊢;split at h
   ·rename_i hch;rw [ay hch];exact ⟨(ee _).len,k2,hc⟩
   ·simp [h0] at h
 rw [am k2,am hk] at h;split at h
 ·grind [answered]
 ·grind
theorem kK (t:Int):OV (enter s t (-1))=false:=JM
theorem mZ (hk:m.kind≠3) (Pr:LN s) (hn:s.n=n) (O8:n<=5) (ho:s.own<n) (QJ:s.agreed<=s.Oz.length) (hΛ:(X.get z e s m).2.Oy=true->s.Oy=false->(X.get z e s m).2.Oz.length<=Λ) :
  Ru n Λ st s (X.get z e s m).2/\dM n Λ (X.get z e s m).2 st+((X.get z e s m).1.map (t6 (X.get z e s m).2 st)).sum+1<=dM n Λ s st+(if (X.get z e s m).2.Oy=true/\s.Oy=false then (20+10*st)*cL s else 0)+uN s st m /\
   ((X.get z e s m).2.Oy=true->s.Oy=false->OV s=true/\(X.get z e s m).2.Ow=s.Ow/\¬kQ s m=true):=by
 unfold X.get at hΛ ⊢;split
 ·refine ⟨Ru.refl,?_,λh1 h2=>?_⟩
  ·have:=uk s st m;simp only [iU,tw];omega
  ·rw [h2] at h1;cases h1
 ·rename_i Ut;rw [am Ut] at hΛ;have hb:kQ s m=false:=by simpa using Ut
  unfold kQ at hb;simp only [dw,gA,cE,bq,ne_eq,eP] at hb;obtain ⟨⟨⟨⟨⟨⟨b1,b2⟩,b3⟩,b4⟩,b5⟩,b6⟩,b7⟩:=hb;have hfn:m.OD.toNat<n:=az;split
  ·rename_i ht;rw [ay ht] at hΛ;obtain ⟨e1,e2,e3,e4⟩:=tg (n:=n) (Λ:=Λ) (st:=st) (s:=s) (m.N.getD 0 0) ht;have hno:(OJ z e (enter s (m.N.getD 0 0) (-1)) m).2.Oy=false:=by
    cases hq:(OJ z e (enter s (m.N.getD 0 0) (-1)) m).2.Oy with
    | false=>rfl
    | true =>
     have:=(i9 hk hq e3).2.2;rw [kK] at this;cases this
   obtain ⟨g1,g2⟩:=uu (z:=z) (e:=e) (st:=st) (Λ:=Λ) (s:=enter s (m.N.getD 0 0) (-1)) hk (Pr.enter _ _ ht) hn O8 ho hfn az b2 QJ (λh=>by rw [hno] at h;cases h);rw [hno] at g2 ⊢;simp only [bk,false_and,if_false] at g2 ⊢;refine ⟨e1.trans g1,?_,λh=>kD⟩;have:=zK e1 m;omega
  ·rename_i ht;rw [am ht] at hΛ;obtain ⟨g1,g2⟩:=uu (z:=z) (e:=e) (st:=st) (Λ:=Λ) (s:=s) hk Pr hn O8 ho hfn az b2 QJ (λh h0=>by
    have h1:=hΛ h h0;rw [(i9 hk h h0).1] at h1;exact h1)
   refine ⟨g1,g2,λh h0=>⟨(i9 hk h h0).2.2,?_,Ut⟩⟩;have h2:=(i9 hk h h0).2.1;unfold OJ;rw [am (by rw [h2];decide),ay h2];exact Jm
theorem ru (hk:m.kind=3):Ru n Λ st s (X.get z e s m).2/\dM n Λ (X.get z e s m).2 st<=dM n Λ s st/\(X.get z e s m).1.length<=1/\((X.get z e s m).2.Oy=true->s.Oy=true) /\
  ∀x∈(X.get z e s m).1,x.kind=4/\x.dst=m.OD/\(x.N.getD 1 0=0->m.N.getD 0 0<x.N.getD 0 0\/(x.N.getD 0 0=m.N.getD 0 0/\s.Ow<=m.N.getD 0 0/\nf s (m.N.getD 1 0) (m.N.getD 2 0)=false)):=by
 unfold X.get;split
 ·exact ⟨Ru.refl,ah _,by simp,λh=>h,λx hx=>(by cases hx)⟩
 ·have hgi:∀s1:Nd ρ,OJ z e s1 m=lays z s1 m:=λs1=>by
   grind [OJ]
  split
  ·rename_i ht;rw [hgi];obtain ⟨e1,e2,e3,e4⟩:=tg (n:=n) (Λ:=Λ) (st:=st) (s:=s) (m.N.getD 0 0) ht;obtain ⟨g1,g2,g3,g4,g5⟩:=ue (z:=z) (m:=m) (n:=n) (Λ:=Λ) (st:=st) (s:=enter s (m.N.getD 0 0) (-1)) (aP _);refine ⟨e1.trans g1,by omega,g4,λh=>(by rw [g3,e3] at h;cases h),λx hx=>?_⟩;obtain ⟨h1,h2,h3,h4⟩:=g5 x hx;refine ⟨h1,h2,λh=>?_⟩;rcases h4 h with h5 | h5
   ·exact absurd h5 (Int.lt_irrefl _)
   ·exact .inr ⟨h3,by omega,h5⟩
  ·grind [ue]
theorem Fr {A:Nat} (hG:QS z n b G S) (hA:A<n) (hi:i<n) (hAi:i≠A) (hm:MI n G m) (hk:m.kind=3) (hf:m.OD=(A:Int)) (hl:(S.nd A).Oy=true) (ht:m.N.getD 0 0=(S.nd A).Ow) (hs:(S.nd i).Ow<=m.N.getD 0 0) (hle:(m.N.getD 1 0).toNat<=(S.nd A).OE.getD i 0):nf (S.nd i) (m.N.getD 1 0) (m.N.getD 2 0)=true:=by
 obtain ⟨f,hfn,Vw,_,_,h3,_⟩:=hm.f;obtain ⟨T6,p,a,e1,e2,e3,e4,e5,_⟩:=h3 hk;rw [e1] at hle ⊢;rw [bU] at hle;unfold nf;rw [e2,bU];by_cases hp:p=0
 ·grind [bC]
 ·have UI:=(hG.ni A hA).OE hl i hi hAi az;rw [<-ht] at UI;obtain ⟨a1,a2⟩:=(hG.ni i hi).Rt _ _ UI;have SI:(G.L (m.N.getD 0 0)).take ((S.nd A).OE.getD i 0) <+: (S.nd i).Oz:=by
   grind
  have hL:=(hG.gi.Qx _ _ _ UI).2.2;have hlen:=SI.length_le;rw [aQ] at hlen;have h5:bC (S.nd i).Oz p=bC (G.L (m.N.getD 0 0)) p:=by
   rw [<-fR SI yd,eH hle hL]
  rw [h5];have h6:decide ((p:Int)<=((S.nd i).Oz.length:Int))=true:=gD;rw [h6];simp
end
section
variable {ρ:Type} {z:ρ->Bool} {e:ρ} {s s':Nd ρ} {n Λ i:Nat} {b:Int} {x m:Ms ρ} {S S':Cs ρ} {G G':Gh ρ} {q:List (Ms ρ)}
theorem nQ {st:Nat} (h:Ru n Λ st s s') (hc:OV s'=true):OV s=true:=by
 have h1:=h.no (⟨0,0,0,[s.Ow+1],[]⟩:Ms ρ);have hl:s'.Oy=false:=Nn;unfold rS at h1;rw [hl] at h1;have h2:¬(s.Oy=true/\(⟨0,0,0,[s.Ow+1],[]⟩:Ms ρ).N.getD 0 0=s.Ow):=λh=>by
  have h3:s.Ow+1=s.Ow:=h.2;omega
 rw [am h2] at h1;have h3:rr s' st=st+1:=by unfold rr;rw [hc];rfl
 rw [h3] at h1;unfold rr at h1;cases hq:OV s with
 | true=>rfl
 | false=>rw [hq] at h1;simp at h1;omega
theorem eV (hc:OV s=true):s.Oy=false/\s.OC=(s.own:Int):=by
 unfold OV at hc;simp only [bu,bb,cE] at hc;exact ⟨hc.2,hc.1⟩
theorem wG (Pr:LN s) (hn:s.n=n) (O8:n<=5) (ho:s.own<n) (QJ:s.agreed<=s.Oz.length) (hc:OV (X.get z e s m).2=true):OV s=true/\(X.get z e s m).2.Ow=s.Ow/\(kQ s m=true\/m.N.getD 0 0<=s.Ow):=by
 have hl:=(eV hc).1;by_cases hk:m.kind=3
 ·obtain ⟨g1,_⟩:=ru (z:=z) (e:=e) (s:=s) (n:=n) (Λ:=0) (st:=0) hk;refine ⟨nQ g1 hc,?_⟩;unfold X.get at hc ⊢;split
  ·rename_i h1;exact ⟨rfl,.inl h1⟩
  ·rename_i Ut;rw [am Ut] at hc;have hgi:∀s1:Nd ρ,OJ z e s1 m=lays z s1 m:=λs1=>by
    grind [OJ]
   split
   ·rename_i ht;exfalso;rw [ay ht,hgi] at hc;have h1:=(ue (z:=z) (m:=m) (n:=n) (Λ:=0) (st:=0) (s:=enter s (m.N.getD 0 0) (-1)) (aP _)).1;have h2:=nQ h1 hc;rw [kK] at h2;cases h2
   ·rw [hgi];refine ⟨?_,.inr az⟩;unfold lays;split
    ·rfl
    ·split
     ·rfl
     ·simp only;split
      ·obtain ⟨b1,b2,b3,b4,_⟩:=iJ (m.N.getD 1 0).toNat ((m.N.drop 4).zip m.B) 0 ({ s with Ox:=0 }:Nd ρ);split
       ·obtain ⟨c1,c2,c3,c4,_⟩:=gE (z:=z) (bH (m.N.getD 1 0).toNat ((m.N.drop 4).zip m.B) 0 ({ s with Ox:=0 }:Nd ρ)).2 (min (m.N.getD 3 0) (((m.N.getD 1 0).toNat+m.B.length:Nat):Int)).toNat;exact c4.trans b4
       ·exact b4
      ·rfl
 ·obtain ⟨g1,_⟩:=mZ (z:=z) (e:=e) (s:=s) (n:=n) (Λ:=0) (st:=0) (m:=m) hk Pr hn O8 ho QJ (λh=>by rw [hl] at h;cases h);refine ⟨nQ g1 hc,?_⟩;unfold X.get at hc hl ⊢;split
  ·rename_i h1;exact ⟨rfl,.inl h1⟩
  ·rename_i Ut;rw [am Ut] at hc hl;have hb:kQ s m=false:=by simpa using Ut
   unfold kQ at hb;simp only [dw,gA,cE,bq,ne_eq,eP] at hb;obtain ⟨⟨⟨⟨⟨⟨b1,b2⟩,b3⟩,b4⟩,b5⟩,b6⟩,b7⟩:=hb;split
   ·rename_i ht;exfalso;rw [ay ht] at hc hl;have h1:=(uu (z:=z) (e:=e) (st:=0) (Λ:=0) (s:=enter s (m.N.getD 0 0) (-1)) hk (Pr.enter _ _ ht) hn O8 ho az az b2 QJ (λh=>by rw [hl] at h;cases h)).1;have h2:=nQ h1 hc;rw [kK] at h2;cases h2
   ·rename_i ht;rw [am ht] at hl;refine ⟨?_,.inr az⟩;unfold OJ at hl ⊢;split
    ·unfold asked;split
     ·simp only;split
      ·split<;>rfl
      ·rfl
     ·rfl
    ·split
     ·exact Jm
     ·grind [answered,df]
end
section
variable {ρ:Type} {z:ρ->Bool} {e:ρ} {s s':Nd ρ} {n Λ i:Nat} {b:Int} {x m:Ms ρ} {S S':Cs ρ} {G G':Gh ρ} {q:List (Ms ρ)}
theorem CX (h1:s'.Oz=s.Oz) (h2:s.agreed<=s'.agreed) (h3:s'.Ow=s.Ow):cL s'<=cL s:=by
 unfold cL;rw [h1,h3];have e1:s.Oz.drop s'.agreed=(s.Oz.drop s.agreed).drop (s'.agreed - s.agreed):=by rw [LK,show s.agreed+(s'.agreed - s.agreed)=s'.agreed by omega]
 rw [e1];exact ((List.drop_sublist _ _).filter _).length_le
theorem Ls {st:Nat} (hg:GI n G) (OP:NI z n G i s) (Pr:LN s) (O8:n<=5) (O9:i<n) (hm:MI n G m) (Yb:m.OD≠(i:Int)) (hb:By i G G') (YJ:NI z n G' i (X.get z e s m).2) (hΛ:(X.get z e s m).2.Oy=true->s.Oy=false->(X.get z e s m).2.Oz.length<=Λ) :
  (if m.kind≠3/\(X.get z e s m).2.Oy=true/\s.Oy=false then (20+10*st)*cL s else 0)+iZ G' (X.get z e s m).2 st i<=iZ G s st i:=by
 have ho:s.own<n:=by rw [OP.own];exact O9
 have QJ:s.agreed<=s.Oz.length:=OP.ag.1;have key:OV s=true->(G.O7 s.Ow=some i\/G.O7 s.Ow=none\/∃f,f≠i/\G.O7 s.Ow=some f):=λ_=>by
  cases hq:G.O7 s.Ow with
  | none=>exact .inr (.inl rfl)
  | some f =>
   by_cases h:f=i
   ·subst h;exact .inl rfl
   ·exact .inr (.inr ⟨f,h,rfl⟩)
 have u0:OV s=true->G.O7 s.Ow=none->cL s=0:=λhc hq=>CY hg OP (by have:=(eV hc).2;rw [this,OP.own]) hq;by_cases Ur:m.kind≠3/\(X.get z e s m).2.Oy=true/\s.Oy=false
 ·rw [ay Ur];obtain ⟨k1,k2,k3⟩:=Ur;obtain ⟨_,_,h3⟩:=mZ (z:=z) (e:=e) (s:=s) (n:=n) (Λ:=Λ) (st:=st) (m:=m) k1 Pr OP.nn O8 ho QJ hΛ;obtain ⟨hc,ht,_⟩:=h3 k2 k3;have e0:iZ G' (X.get z e s m).2 st i=0:=by
   grind [iZ,eV]
  rw [e0];have T6:=(YJ.UC k2).1;rw [ht] at T6;rcases key hc with h | h | ⟨f,h1,h2⟩
  ·unfold iZ;rw [ay ⟨hc,h⟩];omega
  ·rw [u0 hc h];simp
  ·have:=(hb.le.O7 _ _ h2).1;rw [this] at T6;exact absurd (rV T6) h1
 ·rw [am Ur];unfold iZ;by_cases hc':OV (X.get z e s m).2=true/\G'.O7 (X.get z e s m).2.Ow=some i
  ·rw [ay hc'];obtain ⟨hc1,PH⟩:=hc';obtain ⟨hc,ht,VP⟩:=wG (z:=z) (e:=e) Pr OP.nn O8 ho QJ hc1;rw [ht] at PH;have hlf:=(eV hc1).1;have YD:cL (X.get z e s m).2<=cL s:=by
    by_cases hk:m.kind=3
    ·rcases VP with Ut | UU
     ·unfold X.get;rw [ay Ut];exact ah _
     ·by_cases Ut:kQ s m=true
      ·unfold X.get;rw [ay Ut];exact ah _
      ·by_cases hlt:m.N.getD 0 0<s.Ow
       ·have e1:(X.get z e s m).2=s:=by
         unfold X.get;rw [am Ut,am az];unfold OJ;rw [am (by rw [hk];decide),am (by rw [hk];decide),ay hk];unfold lays;split
         ·rfl
         ·first | rfl | rw [ay hlt]
        rw [e1];exact ah _
       ·exfalso;obtain ⟨f,hfn,Vw,_,_,h3,_⟩:=hm.f;have h4:=(h3 hk).1;rw [show m.N.getD 0 0=s.Ow by omega] at h4;have:=(hb.le.O7 _ _ h4).1;rw [this] at PH;have:=rV PH;exact Yb (by rw [Vw,this])
    ·exact CX (iw hk (.inl hlf)) Fe ht
   have hmul:(20+10*st)*cL (X.get z e s m).2<=(20+10*st)*cL s:=fi _ YD;rcases key hc with h | h | ⟨f,h1,h2⟩
   ·rw [ay ⟨hc,h⟩];omega
   ·grind
   ·have:=(hb.le.O7 _ _ h2).1;rw [this] at PH;exact absurd (rV PH) h1
  ·rw [am hc'];omega
theorem te {st j:Nat} (hb:By i G G') (hj:j≠i):iZ G' s st j<=iZ G s st j:=by
 unfold iZ;split
 ·grind [hb.O7]
 ·omega
theorem ze {α:Type} (l:List α) (g g':α->Nat) (h:∀x∈l,g' x<=g x):(l.map g').sum<=(l.map g).sum:=by
 induction l with
 | nil=>exact ah _
 | cons a l ih =>
  rw [bJ,fC,bJ,fC];exact Jw
theorem J9 {st:Nat->Nat} (hG:QS z n b G S) (O8:n<=5) (hb:b<=1099511627776) (hq:S.q=m::q) (hΛ:∀i,S.up i=true->(((S.wq q).bring z e m).nd i).Oz.length<=Λ) :
  ∃G',QS z n b G' ((S.wq q).bring z e m)/\WW n Λ G' ((S.wq q).bring z e m) st+1<=WW n Λ G S st/\((S.up m.dst.toNat=true/\By m.dst.toNat G G')\/(S.up m.dst.toNat=false/\G'=G)):=by
 have Rc:m∈S.q:=Bl;obtain ⟨hmi,ZO⟩:=hG.mi m Rc;have YB:QS z n b G (S.wq q):=⟨hG.gi,hG.ni,hG.ln,λx hx=>hG.mi x yg,hG.up,hG.tb,hG.lo⟩
 obtain ⟨i,h1,h2,h3,h4⟩:=Wk.got (z:=z) (e:=e) (S:=S) ⟨G,hG⟩ hb ZO;have hWS:WW n Λ G S st=kR S st m+((q.map (kR S st)).sum+db n (fB n Λ G S st)):=by
  grind [WW]
 rw [hWS];have hp:=Gc S st m;unfold Cs.bring at hΛ ⊢;rw [h3] at hΛ ⊢;by_cases hu:S.up i=true
 ·have Su:(S.wq q).up i=true:=hu;rw [ay Su] at hΛ ⊢;have PO:(S.wq q).nd i=S.nd i:=rfl;rw [PO] at hΛ ⊢;have OP:=hG.ni i h1;have SV:=hG.tb i h1;have WU:=ZO.tb;have ht:(X.get z e (S.nd i) m).2.Ow<=b:=by have:=h4.top;omega
  have hfA:m.OD≠(i:Int):=by
   grind [ZO.f]
  obtain ⟨G',hby,h5⟩:=YB.call (i:=i) h1 (yC (e:=e) hG.gi OP hmi) ((hG.ln i h1).get OP.own OP.nn h1) ht (λx hx=>by
   obtain ⟨o1,o2,o3,_⟩:=h4.out x hx;obtain ⟨j,d1,d2,d3⟩:=ut OP.own OP.nn x hx ZO h2;have QW:=h4.up;have UX:=OP.t0;exact ⟨⟨j,i,d1,h1,by omega,d3,by rw [o1,OP.own]⟩,o3,by rw [o2];omega,by rw [o2];exact ht⟩)
  refine ⟨G',h5,?_,.inl ⟨hu,hby⟩⟩;have hΛi:(X.get z e (S.nd i) m).2.Oy=true->(S.nd i).Oy=false->(X.get z e (S.nd i) m).2.Oz.length<=Λ:=λ_ _=>by
   grind [bf]
  have QG:=Ls (Λ:=Λ) (st:=st i) hG.gi OP (hG.ln i h1) O8 h1 hmi hfA hby (by have:=h5.ni i h1;rw [bf,ay rfl] at this;exact this) hΛi;have ho:(S.nd i).own<n:=by rw [OP.own];exact h1
  have QJ:(S.nd i).agreed<=(S.nd i).Oz.length:=OP.ag.1;have e1:=gG n (λj=>if j=i then fB n Λ G' ((S.wq q).call i (X.get z e (S.nd i) m)) st i else fB n Λ G S st j) (fB n Λ G' ((S.wq q).call i (X.get z e (S.nd i) m)) st) (λj _=>by
   show _<=if j=i then _ else _
   split
   ·rename_i hj;rw [hj];exact ah _
   ·rename_i hj;unfold fB;rw [bf,am hj];show (if S.up j=true then _ else 0)<=_;split
    ·have:=te (s:=S.nd j) (st:=st j) hby hj;show dM n Λ (S.nd j) (st j)+iZ G' (S.nd j) (st j) j<=_;omega
    ·exact ah _)
  have e2:=jd n i (fB n Λ G S st) (λj=>if j=i then fB n Λ G' ((S.wq q).call i (X.get z e (S.nd i) m)) st i else fB n Λ G S st j) h1 (λj hj=>by show (if j=i then _ else _)=_;rw [am hj]);simp only [if_true] at e2;have e3:fB n Λ G S st i=dM n Λ (S.nd i) (st i)+iZ G (S.nd i) (st i) i:=by unfold fB;rw [ay hu]
  have e4:fB n Λ G' ((S.wq q).call i (X.get z e (S.nd i) m)) st i=dM n Λ (X.get z e (S.nd i) m).2 (st i)+iZ G' (X.get z e (S.nd i) m).2 (st i) i:=by
   unfold fB;rw [bf,ay rfl];exact ay hu
  have hold:∀ZJ:Ru n Λ (st i) (S.nd i) (X.get z e (S.nd i) m).2,(q.map (kR ((S.wq q).call i (X.get z e (S.nd i) m)) st)).sum<=(q.map (kR S st)).sum:=λZJ=>ze _ _ _ λx _=>by
   unfold kR;split
   ·rw [bf];split
    ·rename_i hj;rw [hj];exact ZJ.lay x
    ·exact ah _
   ·rw [bf];split
    ·rename_i hj;rw [hj];exact zK ZJ x
    ·exact ah _
  have VO:WW n Λ G' ((S.wq q).call i (X.get z e (S.nd i) m)) st=(q.map (kR ((S.wq q).call i (X.get z e (S.nd i) m)) st)).sum+((X.get z e (S.nd i) m).1.map (kR ((S.wq q).call i (X.get z e (S.nd i) m)) st)).sum+db n (fB n Λ G' ((S.wq q).call i (X.get z e (S.nd i) m)) st):=by
   unfold WW;show (((q++(X.get z e (S.nd i) m).1).map _).sum)+_=_;rw [cy,IG]
  rw [VO];by_cases hk:m.kind=3
  ·obtain ⟨g1,g2,g3,g4,g5⟩:=ru (z:=z) (e:=e) (s:=S.nd i) (n:=n) (Λ:=Λ) (st:=st i) (m:=m) hk;have Vt:=hold g1;rw [am (λh=>h.1 hk)] at QG;have hout:((X.get z e (S.nd i) m).1.map (kR ((S.wq q).call i (X.get z e (S.nd i) m)) st)).sum+1<=kR S st m:=by
    obtain ⟨j,f,j1,j2,j3,j4,j5⟩:=ZO.f;have SX:j=i:=by rw [h2] at j4;omega
    subst SX;have Yb:f≠j:=j3;have hw:kR S st m=fY (S.nd f) (st f) m:=by
     grind [kR,bU]
    rw [hw];have h2w:=wj (S.nd f) (st f) m
    match hr:(X.get z e (S.nd j) m).1,g3,g5 with
    | [],_,_=>simp;omega
    | [x],_,g5 =>
     obtain ⟨x1,x2,x3⟩:=g5 x bd;rw [bJ,iU,fC,tw];have hx:kR ((S.wq q).call j (X.get z e (S.nd j) m)) st x=uN (S.nd f) (st f) x:=by
      unfold kR;rw [am (by rw [x1];decide),x2,j5,bU,bf,am Yb];rfl
     rw [hx];unfold uN;rw [am (by rw [x1];decide)];by_cases hN:x.N.getD 1 0=0
     ·rw [ay ⟨x1,hN⟩];unfold rS fY;by_cases hlv:(S.nd f).Oy=true/\x.N.getD 0 0=(S.nd f).Ow
      ·rw [ay hlv,ay hlv.1];rcases x3 hN with h9 | ⟨h9,h10,h11⟩
       ·grind
       ·rw [am (by rw [<-hlv.2,h9];exact Int.lt_irrefl _)];have Y9:(S.nd f).OE.getD m.dst.toNat 0<(m.N.getD 1 0).toNat:=by
         grind [Nat.lt_of_not_le,Fr]
        rw [ay ⟨by rw [<-hlv.2,h9],Y9⟩];omega
      ·grind
     ·rw [am (λh=>hN h.2)];omega
    | x::y::l,g3,_=>simp at g3
   omega
  ·obtain ⟨g1,g2,g3⟩:=mZ (z:=z) (e:=e) (s:=S.nd i) (n:=n) (Λ:=Λ) (st:=st i) (m:=m) hk (hG.ln i h1) OP.nn O8 ho QJ hΛi;have Vt:=hold g1;have hwm:kR S st m=uN (S.nd i) (st i) m:=by unfold kR;rw [am hk,h3]
   have hout:((X.get z e (S.nd i) m).1.map (kR ((S.wq q).call i (X.get z e (S.nd i) m)) st)).sum=((X.get z e (S.nd i) m).1.map (t6 (X.get z e (S.nd i) m).2 (st i))).sum:=by
    congr 1;apply kP;intro x hx;obtain ⟨o1,o2,o3,o4,o5⟩:=h4.out x hx;unfold kR t6;by_cases hx3:x.kind=3
    ·grind [bU,bf,OP.own]
    ·grind [uN]
   have hext2:(if (X.get z e (S.nd i) m).2.Oy=true/\(S.nd i).Oy=false then (20+10*st i)*cL (S.nd i) else 0)+iZ G' (X.get z e (S.nd i) m).2 (st i) i<=iZ G (S.nd i) (st i) i:=by
    grind
   rw [hwm,hout];omega
 ·have Su:¬(S.wq q).up i=true:=hu;rw [am Su];refine ⟨G,YB,?_,.inr ⟨by simpa using hu,rfl⟩⟩;have e1:WW n Λ G (S.wq q) st=(q.map (kR S st)).sum+db n (fB n Λ G S st):=rfl;rw [e1];omega
end
section
variable {ρ:Type} {z:ρ->Bool} {e:ρ} {s s':Nd ρ} {n Λ i c:Nat} {b:Int} {x m:Ms ρ} {S S':Cs ρ} {G G':Gh ρ} {q:List (Ms ρ)} {st:Nat->Nat}
structure Lq (n c:Nat) (S:Cs ρ):Prop where
 lg:∀i,i<n->(S.nd i).Oz.length<=c
 ms:∀m∈S.q,m.kind=3->(m.N.getD 1 0).toNat+m.B.length<=c
def RR (n:Nat) (S:Cs ρ) (st:Nat->Nat):Nat:=db n λi=>if S.up i=true then rr (S.nd i) (st i) else 0
theorem tJ {t:Nat} (h:Ru n Λ t s s'):rr s' t<=rr s t:=by
 have h1:=h.no (⟨0,0,0,[s.Ow+1],[]⟩:Ms ρ);unfold rS at h1;have h2:¬(s.Oy=true/\(⟨0,0,0,[s.Ow+1],[]⟩:Ms ρ).N.getD 0 0=s.Ow):=λh=>by
  have h3:s.Ow+1=s.Ow:=h.2;omega
 rw [am h2] at h1;split at h1<;>omega
theorem Ka (hG:QS z n b G S) (O8:n<=5) (hb:b<=1099511627776) (hL:Lq n c S) (hR:c+RR n S st<=Λ) (hq:S.q=m::q) :
  ∃G' c',QS z n b G' ((S.wq q).bring z e m)/\Lq n c' ((S.wq q).bring z e m)/\c'+RR n ((S.wq q).bring z e m) st<=Λ/\WW n Λ G' ((S.wq q).bring z e m) st+1<=WW n Λ G S st/\c<=c'/\((S.up m.dst.toNat=true/\By m.dst.toNat G G')\/(S.up m.dst.toNat=false/\G'=G)):=by
 have Rc:m∈S.q:=Bl;have O1:∀x∈q,x∈S.q:=λx hx=>yg;obtain ⟨hw,i,hi,hd,hg,h1,h2⟩:=Wk.comes (z:=z) (e:=e) (T:=S) ⟨G,hG⟩ hb Rc O1;have key:∃c',Lq n c' ((S.wq q).bring z e m)/\c'+RR n ((S.wq q).bring z e m) st<=Λ/\c<=c':=by
  cases hu:S.up i with
  | false =>
   rw [h2 hu];exact ⟨c,⟨hL.lg,λx hx=>hL.ms x (O1 x hx)⟩,hR,ah _⟩
  | true =>
   have OP:=hG.ni i hi;have ho:(S.nd i).own<n:=by rw [OP.own];exact hi
   have gl:=(na (z:=z) (e:=e) (s:=S.nd i) (m:=m)).len;have YM:=hL.lg i hi;obtain ⟨G1,hG1⟩:=hw;rw [h1 hu] at hG1 ⊢;have hlen:∀c',c<=c'->(X.get z e (S.nd i) m).2.Oz.length<=c'->Lq n c' ((S.wq q).call i (X.get z e (S.nd i) m)):=λc' hcc hl=>by
    refine ⟨λj hj=>?_,λx hx hk=>?_⟩
    ·rw [bf];split
     ·exact hl
     ·exact aF (hL.lg j hj) hcc
    ·rw [dS] at hx;rcases aA.1 hx with hx | hx
     ·exact aF (hL.ms x (O1 x hx) hk) hcc
     ·obtain ⟨_,o2,_,_,o5⟩:=hg.out x hx;have e1:((S.wq q).call i (X.get z e (S.nd i) m)).nd i=(X.get z e (S.nd i) m).2:=Bp;have:=qh hG1 hi (by rw [e1];exact o5 hk) (x:=x) (by rw [dS];exact aR _ hx) hk (by rw [e1];exact o2);rw [e1] at this;omega
   have hRR:∀d,rr (X.get z e (S.nd i) m).2 (st i)+d<=rr (S.nd i) (st i)->RR n ((S.wq q).call i (X.get z e (S.nd i) m)) st+d<=RR n S st:=λd PJ=>by
    have e2:=jd n i (λj=>if S.up j=true then rr (S.nd j) (st j) else 0) (λj=>if ((S.wq q).call i (X.get z e (S.nd i) m)).up j=true then rr (((S.wq q).call i (X.get z e (S.nd i) m)).nd j) (st j) else 0) hi (λj hj=>by
     rw [bf,am hj];rfl)
    have e3:(if ((S.wq q).call i (X.get z e (S.nd i) m)).up i=true then rr (((S.wq q).call i (X.get z e (S.nd i) m)).nd i) (st i) else 0)=rr (X.get z e (S.nd i) m).2 (st i):=by
     rw [bf,ay rfl];exact ay hu
    simp only [hu,if_true] at e2;rw [e3] at e2;unfold RR;omega
   by_cases Ur:m.kind≠3/\(X.get z e (S.nd i) m).2.Oy=true/\(S.nd i).Oy=false
   ·obtain ⟨k1,k2,k3⟩:=Ur;obtain ⟨g1,_,g3⟩:=mZ (z:=z) (e:=e) (s:=S.nd i) (n:=n) (Λ:=(X.get z e (S.nd i) m).2.Oz.length) (st:=st i) (m:=m) k1 (hG.ln i hi) OP.nn O8 ho OP.ag.1 (λ_ _=>ah _);have hc:=(g3 k2 k3).1;have hr1:rr (X.get z e (S.nd i) m).2 (st i)=st i:=gC k2;have hr2:rr (S.nd i) (st i)=st i+1:=by unfold rr;rw [hc];rfl
    have h9:=hRR 1 az;rw [am k1] at gl;exact ⟨c+1,hlen (c+1) az (by rcases gl with g | g<;>omega),by omega,by omega⟩
   ·have hl:(X.get z e (S.nd i) m).2.Oz.length<=c:=by
     by_cases k3:m.kind=3
     ·rw [ay k3] at gl;have:=hL.ms m Rc k3;rcases gl with g | g<;>omega
     ·grind [iw]
    have X0:rr (X.get z e (S.nd i) m).2 (st i)<=rr (S.nd i) (st i):=by
     by_cases k3:m.kind=3
     ·exact tJ (ru (z:=z) (e:=e) (s:=S.nd i) (n:=n) (Λ:=0) (st:=st i) k3).1
     ·exact tJ (mZ (z:=z) (e:=e) (s:=S.nd i) (n:=n) (Λ:=(X.get z e (S.nd i) m).2.Oz.length) (st:=st i) (m:=m) k3 (hG.ln i hi) OP.nn O8 ho OP.ag.1 (λ_ _=>ah _)).1
    have h9:=hRR 0 az;exact ⟨c,hlen c (ah _) hl,by omega,ah _⟩
 obtain ⟨c',k1,k2,k3⟩:=key;obtain ⟨G',UK,hw',hby'⟩:=J9 (z:=z) (e:=e) (Λ:=Λ) (st:=st) hG O8 hb hq (λj hj=>by
  have:=k1.lg j (hG.up j hj);omega)
 exact ⟨G',c',UK,k1,k2,hw',k3,hby'⟩
end
section
variable {ρ:Type} {z:ρ->Bool} {e:ρ} {s s':Nd ρ} {n i c:Nat} {b b' t t' B B':Int} {x m:Ms ρ} {S T T':Cs ρ} {G G':Gh ρ} {q:List (Ms ρ)} {K K':Int->Lg ρ} {D D':List (Int×Nat)} {E:List Int} {l l' Lt Yl:Lg ρ} {r:List (Ms ρ)×Nd ρ}
def BB (D:List (Int×Nat)) (K:Int->Lg ρ) (t:Int):Nat:=((D.filter λd=>decide (d.1<t)).map λd=>(K d.1).length).sum
theorem lU (d:Int×Nat) (D:List (Int×Nat)):BB (d::D) K t=(if d.1<t then (K d.1).length else 0)+BB D K t:=by
 grind [BB]
theorem uL (hK:∀t,(K t).length<=(K' t).length) (h:t<=t'):BB D K t<=BB D K' t':=by
 induction D with
 | nil=>exact ah _
 | cons d D ih =>
  rw [lU,lU];have:=hK d.1;split
  ·rw [ay az];omega
  ·omega
theorem uM (h:t<t') (hd:(∃i,(t,i)∈D)\/K t=[]):BB D K t+(K t).length<=BB D K t':=by
 have h0:BB D K t<=BB D K t':=uL (λ_=>ah _) (Int.le_of_lt h);rcases hd with ⟨i,hd⟩ | hd
 ·induction D with
  | nil=>cases hd
  | cons d D ih =>
   rw [lU,lU];have h1:BB D K t<=BB D K t':=uL (λ_=>ah _) (Int.le_of_lt h);rcases cA.1 hd with hd | hd
   ·grind
   ·grind
 ·rw [hd];simpa using h0
theorem NN (hc:∀t,(K t).length<=c):BB D K t<=D.length*c:=by
 induction D with
 | nil=>exact aH _
 | cons d D ih =>
  rw [lU,aX,nD];have:=hc d.1;split<;>omega
theorem F3 (hc:∀t,(K t).length<=c) (hd:(∃i,(t,i)∈D)\/K t=[]):BB D K t+(K t).length<=D.length*c :=
 aF (uM (show t<t+1 by omega) hd) (NN hc)
theorem Wn.grow (h:Wn B Lt s) (hB:B<=B') (hL:Lt <+: Yl):Wn B' Yl s:=by
 obtain ⟨A,a1,a2,a3,a4⟩:=h;exact ⟨A,a1,aF a2 hL.length_le,a3.trans (jb hL a2),by omega⟩
def ct (t:Int) (l:Lg ρ):Nat:=(l.filter λx=>x.1==t).length
theorem Io (t u:Int) (y:ρ):ct t (l++[(u,y)])=ct t l+if u=t then 1 else 0:=by
 grind [ct,aE]
theorem Im (k:Nat):ct t (l.take k)<=ct t l:=((List.take_sublist k l).filter _).length_le
structure Pw (n:Nat) (G:Gh ρ) (T:Cs ρ) (D:List (Int×Nat)) (K:Int->Lg ρ) (E:List Int):Prop where
 kl:∀t,K t <+: G.L t
 kd:∀t,(∃i,(t,i)∈D)\/K t=[]
 ld:∀j,j<n->(T.nd j).Oy=true->((T.nd j).Ow,j)∈D/\(T.nd j).Oz=K (T.nd j).Ow
 ly:∀m∈T.q,m.kind=3->(m.N.getD 1 0).toNat+m.B.length<=(K (m.N.getD 0 0)).length
 cl:∀t,(K t).length<=E.length
 lg:∀j,j<n->(T.nd j).Oz.length<=E.length
 el:∀j,j<n->∀t,ct t (T.nd j).Oz<=E.count t
 ek:∀u t,ct t (K u)<=E.count t
 pl:∀j,j<n->Wn (BB D K (T.nd j).Ow:Nat) (K (T.nd j).Ow) (T.nd j)
structure Tf (K:Int->Lg ρ) (s:Nd ρ) (r:List (Ms ρ)×Nd ρ):Prop where
 up:s.Ow<=r.2.Ow
 out:∀x∈r.1,x.kind=3->r.2.Oy=true/\x.N.getD 0 0=r.2.Ow
 cs:(r.2.Oz=s.Oz/\X.pl r.2<=X.pl s/\(r.2.Oy=true->s.Oy=true/\r.2.Ow=s.Ow)) \/
  (r.2.Oy=true/\X.pl r.2<=X.pl s+1/\∃x,r.2.Oz=s.Oz++[(r.2.Ow,x)]) \/
  (r.2.Oy=false/\(∀B,Wn B (K r.2.Ow) s->Wn B (K r.2.Ow) r.2)/\(r.2.Oz=s.Oz\/∃k,r.2.Oz=(K r.2.Ow).take k))
theorem Pw.step (h:Pw n G T D K E) (hi:i<n) (hby:By i G G') (UK:QS z n b G' ((T.wq q).call i r)) (hq:∀x∈q,x∈T.q) (tf:Tf K (T.nd i) r) :
  ∃D' K' E',Pw n G' ((T.wq q).call i r) D' K' E'/\((E'=E/\D'=D)\/(E'.length=E.length+1/\r.2.Oy=true/\((D'=D/\(r.2.Ow,i)∈D)\/(D'=(r.2.Ow,i)::D/\(r.2.Ow,i)∉D))))/\(E'.length≠E.length->r.2.Oz.length=(T.nd i).Oz.length+1):=by
 have Xz:((T.wq q).call i r).nd i=r.2:=Bp;have hndj:∀j,j≠i->((T.wq q).call i r).nd j=T.nd j:=λj hj=>by rw [bf,am hj];rfl
 have XB:∀j,((T.wq q).call i r).nd j=if j=i then r.2 else T.nd j:=λj=>by rw [bf];rfl
 have YJ:=UK.ni i hi;rw [Xz] at YJ;have hlay:∀x∈r.1,x.kind=3->r.2.Oy=true/\x.N.getD 0 0=r.2.Ow/\(x.N.getD 1 0).toNat+x.B.length<=r.2.Oz.length:=λx hx hk=>by
  obtain ⟨o1,o2⟩:=tf.out x hx hk;refine ⟨o1,o2,?_⟩;obtain ⟨f,_,_,_,_,h3,_⟩:=(UK.mi x (by rw [dS];exact aR _ hx)).1.f;obtain ⟨_,p,a,e2,_,_,e5,_⟩:=h3 hk;rw [o2,<-(YJ.UC o1).2] at e5;rw [e2];omega
 cases hl:r.2.Oy with
 | false =>
  have hno:∀j,j<n->(((T.wq q).call i r).nd j).Oy=true->j≠i:=λj _ hj e1=>by
   subst e1;rw [Xz,hl] at hj;cases hj
  have hlyq:∀m∈((T.wq q).call i r).q,m.kind=3->(m.N.getD 1 0).toNat+m.B.length<=(K (m.N.getD 0 0)).length:=λm hm hk=>by
   rw [dS] at hm;rcases aA.1 hm with hm | hm
   ·exact h.ly m (hq m hm) hk
   ·grind
  refine ⟨D,K,E,⟨λt=>(h.kl t).trans (hby.le.L t),h.kd,λj hj PI=>?_,hlyq,h.cl,λj hj=>?_,λj hj t=>?_,h.ek,λj hj=>?_⟩,.inl ⟨rfl,rfl⟩,λh=>absurd rfl h⟩
  ·grind [h.ld]
  ·rw [XB];split
   ·rcases tf.cs with g | g | g
    ·rw [g.1];exact h.lg i hi
    ·rw [hl] at g;cases g.1
    ·rcases g.2.2 with g | ⟨k,g⟩
     ·rw [g];exact h.lg i hi
     ·rw [g,aQ];have:=h.cl r.2.Ow;omega
   ·exact h.lg j hj
  ·rw [XB];split
   ·rcases tf.cs with g | g | g
    ·rw [g.1];exact h.el i hi t
    ·rw [hl] at g;cases g.1
    ·rcases g.2.2 with g | ⟨k,g⟩
     ·rw [g];exact h.el i hi t
     ·rw [g];exact aF (Im k) (h.ek _ t)
   ·exact h.el j hj t
  ·rw [XB];split
   ·have hp:=h.pl i hi;have hjump:Wn ((BB D K r.2.Ow:Nat):Int) (K r.2.Ow) (T.nd i):=by
     by_cases e1:r.2.Ow=(T.nd i).Ow
     ·rw [e1];exact hp
     ·obtain ⟨A,a1,a2,a3,a4⟩:=hp;have hj:=uM (K:=K) (D:=D) (show (T.nd i).Ow<r.2.Ow by have:=tf.up;omega) (h.kd _);exact ⟨0,aH _,aH _,by simp,by omega⟩
    rcases tf.cs with g | g | g
    ·exact hjump.of g.1 g.2.1
    ·rw [hl] at g;cases g.1
    ·exact g.2.1 _ hjump
   ·exact h.pl j hj
 | true =>
  obtain ⟨d1,d2⟩:=YJ.UC hl;have hKK:K r.2.Ow <+: r.2.Oz:=by rw [d2];exact (h.kl _).trans (hby.le.L _)
  have SI:∀t,K t <+: (λt=>if t=r.2.Ow then r.2.Oz else K t) t:=λt=>by
   grind
  have hK'i:(if r.2.Ow=r.2.Ow then r.2.Oz else K r.2.Ow)=r.2.Oz:=ay rfl;have hdd:∃D',(r.2.Ow,i)∈D'/\(∀d∈D,d∈D')/\(∀t,BB D K t<=BB D' K t)/\((D'=D/\(r.2.Ow,i)∈D)\/(D'=(r.2.Ow,i)::D/\(r.2.Ow,i)∉D)):=by
   by_cases hm:(r.2.Ow,i)∈D
   ·grind
   ·grind [bd,aM,lU]
  obtain ⟨D',f1,f2,f3,f4⟩:=hdd;have Pz:r.2.Oz=(T.nd i).Oz\/∃x,r.2.Oz=(T.nd i).Oz++[(r.2.Ow,x)]:=by
   grind [tf.cs]
  have hbb:∀t,BB D K t<=BB D' (λt=>if t=r.2.Ow then r.2.Oz else K t) t:=λt=>aF (f3 t) (uL (λu=>(SI u).length_le) (aP _));have main:∀E':List Int,E.length<=E'.length->r.2.Oz.length<=E'.length->(∀t,E.count t<=E'.count t)->(∀t,ct t r.2.Oz<=E'.count t)->Pw n G' ((T.wq q).call i r) D' (λt=>if t=r.2.Ow then r.2.Oz else K t) E':=λE' e1 e2 e3 e4=>by
   refine ⟨λt=>?_,λt=>?_,λj hj PI=>?_,λm hm hk=>?_,λt=>?_,λj hj=>?_,λj hj t=>?_,λu t=>?_,λj hj=>?_⟩
   ·show (if t=r.2.Ow then r.2.Oz else K t) <+: _;split
    ·grind
    ·exact (h.kl t).trans (hby.le.L t)
   ·grind [h.kd]
   ·by_cases e1:j=i
    ·grind
    ·have hjl':=PI;rw [hndj j e1] at PI ⊢;have h5:=(UK.ni j hj).UC hjl';rw [hndj j e1] at h5;obtain ⟨g1,g2⟩:=h.ld j hj PI;refine ⟨f2 _ g1,?_⟩;show _=if (T.nd j).Ow=r.2.Ow then r.2.Oz else K (T.nd j).Ow
     rw [am]
     ·exact g2
     ·grind
   ·rw [dS] at hm;rcases aA.1 hm with hm | hm
    ·exact aF (h.ly m (hq m hm) hk) (SI _).length_le
    ·grind
   ·show (if t=r.2.Ow then r.2.Oz else K t).length<=_;split
    ·exact e2
    ·exact aF (h.cl t) e1
   ·rw [XB];split
    ·exact e2
    ·exact aF (h.lg j hj) e1
   ·rw [XB];split
    ·exact e4 t
    ·exact aF (h.el j hj t) (e3 t)
   ·show ct t (if u=r.2.Ow then r.2.Oz else K u)<=_;split
    ·exact e4 t
    ·exact aF (h.ek u t) (e3 t)
   ·rw [XB];split
    ·rename_i e5;subst e5;rw [hK'i];have hp:=h.pl j hj;have hb:=hbb r.2.Ow;rcases tf.cs with g | g | g
     ·have h9:=(g.2.2 hl).2;refine Wn.of (s:=T.nd j) ?_ g.1 g.2.1;rw [h9] at hb hKK ⊢;exact hp.grow az hKK
     ·obtain ⟨y,hy⟩:=g.2.2;have hyl:r.2.Oz.length=(T.nd j).Oz.length+1:=by rw [hy];simp
      refine ⟨r.2.Oz.length,ah _,ah _,rfl,?_⟩;obtain ⟨A,a1,a2,a3,a4⟩:=hp;by_cases e6:r.2.Ow=(T.nd j).Ow
      ·rw [<-e6] at a4;omega
      ·have Tv:=uM (K:=K) (D:=D) (show (T.nd j).Ow<r.2.Ow by have:=tf.up;omega) (h.kd _);omega
     ·rw [hl] at g;cases g.1
    ·have:=hbb (T.nd j).Ow;exact (h.pl j hj).grow az (SI _)
  rcases tf.cs with g | g | g
  ·refine ⟨D',_,E,main E (ah _) (by rw [g.1];exact h.lg i hi) (λ_=>ah _) (λt=>by rw [g.1];exact h.el i hi t),.inl ⟨rfl,?_⟩,λh=>absurd rfl h⟩;rcases f4 with f4 | f4
   ·exact f4.1
   ·grind [h.ld]
  ·obtain ⟨y,hy⟩:=g.2.2;refine ⟨D',_,r.2.Ow::E,main (r.2.Ow::E) bL (by rw [hy];have:=h.lg i hi;simp;omega) (λt=>by rw [List.count_cons];omega) (λt=>?_),.inr ⟨by simp,rfl,f4⟩,λ_=>by rw [hy];simp⟩;rw [hy,Io,List.count_cons];have:=h.el i hi t;by_cases e1:r.2.Ow=t
   ·grind
   ·rw [am e1];omega
  ·rw [hl] at g;cases g.1
theorem Pw.sub (h:Pw n G T D K E) (hq:∀x∈q,x∈T.q):Pw n G (T.wq q) D K E:=⟨h.kl,h.kd,h.ld,λm hm=>h.ly m (hq m hm),h.cl,h.lg,h.el,h.ek,h.pl⟩
end
section
variable {ρ:Type} {z:ρ->Bool} {e:ρ} {s s':Nd ρ} {n i c:Nat} {b b' t t' B B':Int} {x m:Ms ρ} {S T T':Cs ρ} {G G':Gh ρ} {q:List (Ms ρ)} {K K':Int->Lg ρ} {D D':List (Int×Nat)} {E:List Int} {l l' Lt Yl:Lg ρ} {r:List (Ms ρ)×Nd ρ}
theorem vW (s:Nd ρ):(lead z e s).2.Oz=s.Oz++[(s.Ow,e)]:=by
 obtain ⟨h1,h2,h3,h4,h5,h6,h7,h8,h9,h10,h11,Y9,h13⟩:=df (z:=z) (s:=place { s with Oy:=true,next:=List.replicate s.n s.Oz.length,OE:=List.replicate s.n 0 } s.Oz.length (s.Ow,e));show (X.settle z _).2.Oz=_;rw [h8];show s.Oz.take s.Oz.length++[(s.Ow,e)]=_;rw [bW]
theorem y9 (ho:s.own<s.n) (ht:s.Ow<1099511627776):Tf K s (X.tick z e s):=by
 have tk:=tG (z:=z) (e:=e) ho ht;refine ⟨by rcases tk.Ow with g | g<;>omega,λx hx hk=>?_,?_⟩
 ·obtain ⟨_,o2,_,_,o⟩:=tk.out x hx;exact IW
 ·rcases dT (z:=z) (e:=e) s with ⟨h1,h2⟩ | ⟨h1,h2,h3,h4⟩ | ⟨h1,h2,h3,h4⟩ | ⟨h1,h2,h3,h4⟩
  ·rw [h2];exact .inl ⟨rfl,aP _,λ_=>⟨h1,rfl⟩⟩
  ·rw [h4,fu ho ht];have hst:pl (dc s)<=pl s:=jV (s:={ s with OA:=s.OA+1,Ox:=s.Ox+1 }) (s.Ow+1) (s.own:Int) (by show s.Ow<s.Ow+1;omega);have SD:(dc s).Oy=false:=KW;split
   ·refine .inr (.inl ⟨(ee _).Oy,by rw [tX];omega,e,?_⟩);rw [vW,(ee (z:=z) (e:=e) (dc s)).Ow];rfl
   ·exact .inl ⟨rfl,hst,λh=>by rw [show (cP (dc s) (br (dc s) 1),dc s).2.Oy=false from SD] at h;cases h⟩
  ·exact I1
  ·exact I1
theorem Av (x:ρ):Tf K s ((X.OH z s x).1,(X.OH z s x).2.2):=by
 have hs:=ko (z:=z) (s:=s) x;refine ⟨nI hs.Ow.symm,λy hy _=>?_,?_⟩
 ·obtain ⟨d,_,_,rfl⟩:=hs.out y hy;exact ⟨by rw [hs.Oy];exact hs.l1 (List.ne_nil_of_mem hy),rfl⟩
 ·unfold X.OH;split
  ·grind
  ·rename_i hl;split
   ·grind
   ·grind [df,place,pl,bW]
theorem GM (hk:m.kind≠3) (h:(X.get z e s m).2.Oy=true) (h0:s.Oy=false):(X.get z e s m).2.Oz=s.Oz++[((X.get z e s m).2.Ow,e)]:=by
 unfold X.get at h ⊢;split
 ·grind
 ·rename_i hb;rw [am hb] at h;split
  ·grind [i9,fO,kK]
  ·rename_i ht;rw [am ht] at h;have h2:=(i9 hk h h0).2.1;unfold OJ at h ⊢;rw [am (by rw [h2];decide),ay h2] at h ⊢;unfold O4 at h ⊢;split
   ·grind
   ·rename_i hg;rw [am hg] at h;simp only at h ⊢;split
    ·rw [vW,(ee (z:=z) (e:=e) _).Ow]
    ·grind
theorem Fx (hp:Lt <+: Yl) {k:Nat} (hk:k<=Lt.length):Yl.take k=Lt.take k:=(jb hp hk).symm
theorem Dy (hp:Lt <+: Yl) {k j:Nat} (hk:k+j<=Lt.length):(Yl.drop k).take j=(Lt.drop k).take j:=by
 obtain ⟨c,rfl⟩:=hp;rw [qo az,cS Es]
theorem zH (hg:GI n G) (h:NI z n G i s) (hm:MI n G m) (h3:m.kind=3) (ht:m.N.getD 0 0<=s.Ow) (hK:K (m.N.getD 0 0) <+: G.L (m.N.getD 0 0)) (hlen:(m.N.getD 1 0).toNat+m.B.length<=(K (m.N.getD 0 0)).length) :
  ((lays z s m).2.Oz=s.Oz/\pl (lays z s m).2<=pl s/\((lays z s m).2.Oy=true->s.Oy=true/\(lays z s m).2.Ow=s.Ow)) \/
  ((lays z s m).2.Oy=false/\(∀B,Wn B (K (lays z s m).2.Ow) s->Wn B (K (lays z s m).2.Ow) (lays z s m).2)/\((lays z s m).2.Oz=s.Oz\/∃k,(lays z s m).2.Oz=(K (lays z s m).2.Ow).take k)):=by
 have SU:=pj (z:=z) (m:=m) s;have P9:=(ue (z:=z) (n:=0) (Λ:=0) (st:=0) ht).2.2.1;by_cases hq:(lays z s m).2.Oz=s.Oz/\pl (lays z s m).2<=pl s
 ·grind
 ·refine .inr ?_;rw [SU,P9];unfold lays at hq ⊢;split
  ·grind
  ·rename_i hg1;rw [am hg1] at hq;split
   ·grind
   ·rename_i hlt;rw [am hlt] at hq;have hT:m.N.getD 0 0=s.Ow:=az;have hl:s.Oy=false:=by
     grind
    refine ⟨hl,?_⟩;obtain ⟨f,hfn,Vw,_,_,h1,_⟩:=hm.f;obtain ⟨e1,p,a,e2,e3,e4,e5,e6,e7,e8⟩:=h1 h3;rw [hT] at e1 e3 e5 e7 e8 hK hlen;simp only at hq ⊢;split
    ·rename_i O0;unfold nf at O0;simp only [bu,aZ,cE] at O0;rw [e2] at O0 hlen ⊢;obtain ⟨f1,f2⟩:=O0;have f1:p<=s.Oz.length:=KY;have f2:bC s.Oz p=bC (G.L s.Ow) p:=G3;have hpn:((p:Int)).toNat=p:=az;rw [hpn] at hlen ⊢;have hpp:=h.ok.same (hg.ok s.Ow) f1 az f2;have XF:s.Oz.take s.agreed=(G.L s.Ow).take s.agreed:=Mh;have YE:∀k,k<(G.L s.Ow).length->bC (G.L s.Ow) (k+1)<=s.Ow:=λk hk=>Me;obtain ⟨c,lg,c1,c2⟩:=ug (hg.ok s.Ow) YE p m.B.length 0 { s with Ox:=0 } rfl h.ok hpp f1 h.ag.1 XF e5;have hokK:SF G.L (K s.Ow):=by
      have h9:=(hg.ok s.Ow).take (K s.Ow).length;rw [<-List.prefix_iff_eq_take.1 hK] at h9;exact h9
     have w:=λB (hw:Wn B (K s.Ow) s)=>zI (B:=B) hokK p m.B.length 0 { s with Ox:=0 } h.ok (by rw [eK];exact hpp.trans (Fx hK az)) f1 hlen (hw.of rfl (aP _));rw [eK] at c1 c2 w;rw [e7];rw [Dy hK hlen] at c1 ⊢;rw [c1] at w ⊢;refine ⟨λB hw=>(w B hw).of (pF _ _) (nI (qN _ _)),?_⟩;show (X.agree z { s with Ox:=0,Oz:=lg,cnt:=c } _).Oz=_\/∃k,(X.agree z { s with Ox:=0,Oz:=lg,cnt:=c } _).Oz=_;rw [pF];rcases c2 with ⟨g,_⟩ | ⟨g,_⟩
     ·exact .inl g
     ·exact .inr ⟨p+m.B.length,by show lg=_;rw [g,Fx hK hlen]⟩
    ·rename_i O0;rw [am O0] at hq;exact absurd ⟨rfl,aP _⟩ hq
theorem Fb (hg:GI n G) (h:NI z n G i s) (hm:MI n G m) (Qe:QM s m (X.get z e s m)) (hK:∀t,K t <+: G.L t) (hlen:m.kind=3->(m.N.getD 1 0).toNat+m.B.length<=(K (m.N.getD 0 0)).length):Tf K s (X.get z e s m):=by
 refine ⟨Qe.up,λx hx hk=>?_,?_⟩
 ·obtain ⟨_,o2,_,_,o5⟩:=Qe.out x hx;exact ⟨o5 hk,o2⟩
 ·have SL:0<=m.OD:=by obtain ⟨f,_,Vw,_⟩:=hm.f;omega
  by_cases h3:m.kind=3
  ·unfold X.get;split
   ·grind
   ·have O9:∀s1:Nd ρ,OJ z e s1 m=lays z s1 m:=λs1=>by
     grind [OJ]
    split
    ·rename_i ht;rw [O9];have Ur:(enter s (m.N.getD 0 0) (-1)).Oy=false:=fO _ ht;rcases zH (K:=K) hg (h.enter ht) hm h3 (aP _) (hK _) (hlen h3) with g | g
     ·refine .inl ⟨g.1,cK g.2.1 (jV _ _ ht),λh9=>?_⟩;have:=(g.2.2 h9).1;rw [Ur] at this;cases this
     ·exact .inr (.inr ⟨g.1,λB hw=>g.2.1 B (hw.of rfl (jV _ _ ht)),g.2.2⟩)
    ·rw [O9];rcases zH (K:=K) hg h hm h3 az (hK _) (hlen h3) with g | g
     ·exact .inl g
     ·exact .inr (.inr g)
  ·have hp:=m0 (z:=z) (e:=e) (s:=s) SL;by_cases hn:(X.get z e s m).2.Oy=true/\s.Oy=false
   ·grind [GM]
   ·have VP:(X.get z e s m).2.Oy=false\/s.Oy=true:=by
     grind
    refine .inl ⟨iw h3 VP,?_,λh9=>?_⟩
    ·grind
    ·grind [Qe.Oy]
end
section
variable {ρ:Type} {z:ρ->Bool} {e:ρ} {s s':Nd ρ} {n i c a:Nat} {b b' t t' B B':Int} {x m:Ms ρ} {S T T':Cs ρ} {G G':Gh ρ} {q:List (Ms ρ)} {K K':Int->Lg ρ} {D D':List (Int×Nat)} {E:List Int} {l l' Lt Yl:Lg ρ} {r:List (Ms ρ)×Nd ρ}
def pt (D:List (Int×Nat)) (j:Nat) (s:Nd ρ):Nat:=s.Ox+if s.OC=(s.own:Int) then (if (s.Ow,j)∈D then (if s.Oy=true then 0 else 1) else 8) else 0
theorem GC (d:Int×Nat):pt (d::D) i s<=pt D i s:=by
 unfold pt;split
 ·grind
 ·exact ah _
def one (n:Nat) (D:List (Int×Nat)):Nat:=if n=1 then D.length else 0
structure S4 (z:ρ->Bool) (n a:Nat) (T:Cs ρ) (G:Gh ρ) (D:List (Int×Nat)) (K:Int->Lg ρ) (E:List Int):Prop where
 wk:QS z n a G T
 pw:Pw n G T D K E
 RA:8*D.length+db n (λj=>pt D j (T.nd j))+E.length<=a+one n D
 ed:E.length=0\/1<=D.length
def Aw (z:ρ->Bool) (n a:Nat) (T:Cs ρ):Prop:=∃G D K E,S4 z n a T G D K E
theorem QS.mono (h:QS z n b G S) (hb:b<=b'):QS z n b' G S:=⟨h.gi,h.ni,h.ln,λm hm=>⟨(h.mi m hm).1,(h.mi m hm).2.mono hb⟩,h.up,λi hi=>cK (h.tb i hi) hb,h.lo⟩
theorem QS.sub (h:QS z n b G S) (hq:∀x∈q,x∈S.q):QS z n b G (S.wq q):=⟨h.gi,h.ni,h.ln,λm hm=>h.mi m (hq m hm),h.up,h.tb,h.lo⟩
theorem S4.turn (h:S4 z n a T G D K E) (hi:i<n) (hby:By i G G') (UK:QS z n ((a+1:Nat):Int) G' ((T.wq q).call i r)) (hq:∀x∈q,x∈T.q) (tf:Tf K (T.nd i) r)
  (hloc:∀D' E',((E'=E/\D'=D)\/(E'.length=E.length+1/\r.2.Oy=true/\((D'=D/\(r.2.Ow,i)∈D)\/(D'=(r.2.Ow,i)::D/\(r.2.Ow,i)∉D))))->(r.2.Oy=true->(r.2.Ow,i)∈D')->8*D'.length+pt D' i r.2+E'.length+one n D<=8*D.length+pt D i (T.nd i)+E.length+1+one n D') :
  Aw z n (a+1) ((T.wq q).call i r):=by
 obtain ⟨D',K',E',h1,h2,_⟩:=h.pw.step hi hby UK hq tf;refine ⟨G',D',K',E',UK,h1,?_,?_⟩
 case refine_2 =>
  rcases h2 with ⟨g1,g2⟩ | ⟨_,_,⟨g,g1⟩ | ⟨g,_⟩⟩
  ·rw [g1,g2];exact h.ed
  ·grind
  ·right;rw [g];simp
 have h3:=hloc D' E' h2 (λhl=>by
  have:=(h1.ld i hi (by rw [bf,ay rfl];exact hl)).1;rw [bf,ay rfl] at this;exact this)
 have h4:=h.RA;have h5:=gG n (λj=>if j=i then pt D' i r.2 else pt D j (T.nd j)) (λj=>pt D' j (((T.wq q).call i r).nd j)) (λj _=>by
  show pt D' j (if j=i then r.2 else T.nd j)<=if j=i then _ else _
  split
  ·rename_i e1;rw [e1];exact ah _
  ·rcases h2 with ⟨_,g⟩ | ⟨_,_,⟨g,_⟩ | ⟨g,_⟩⟩
   ·rw [g];exact ah _
   ·rw [g];exact ah _
   ·rw [g];exact GC _)
 have h6:=jd n i (λj=>pt D j (T.nd j)) (λj=>if j=i then pt D' i r.2 else pt D j (T.nd j)) hi (λj hj=>by show (if j=i then _ else _)=_;rw [am hj]);simp only [if_true] at h6;omega
theorem S4.U4 (h:QS z n b G T) (hb:b+1<=1099511627776) (hi:i<n):∃G',By i G G'/\QS z n (b+1) G' (T.call i (X.tick z e (T.nd i))):=by
 have hk:=Wk.tk (e:=e) ⟨G,h⟩ hb i hi;have OP:=h.ni i hi;have SV:=h.tb i hi;have h0:=h.mono (b':=b+1) az;exact h0.call (i:=i) hi (tH (e:=e) h0.gi OP) ((h0.ln i hi).tick p8) (by rcases hk.1.Ow with g | g<;>omega) (λx hx=>by
  obtain ⟨o1,o2,o3,⟨d,d1,d2,d3⟩,_⟩:=hk.1.out x hx;have UX:=OP.t0;rw [OP.nn] at d1;rw [OP.own] at d2 o1;exact ⟨⟨d,i,d1,hi,by omega,d3,o1⟩,o3,by rw [o2];rcases hk.1.Ow with g | g<;>omega,by rw [o2];rcases hk.1.Ow with g | g<;>omega⟩)
theorem Aw.more (h:Aw z n a T):Aw z n (a+1) T:=by
 obtain ⟨G,D,K,E,h1,h2,h3,h4⟩:=h;exact ⟨G,D,K,E,h1.mono az,h2,by omega,h4⟩
theorem Aw.sub (h:Aw z n a T) (hq:∀x∈q,x∈T.q):Aw z n a (T.wq q):=by
 obtain ⟨G,D,K,E,h1,h2,h3,h4⟩:=h;exact ⟨G,D,K,E,h1.sub hq,h2.sub hq,h3,h4⟩
theorem Aw.down (h:Aw z n a T) (i:Nat):Aw z n (a+1) (T.down i):=by
 obtain ⟨G,D,K,E,h1,h2,h3,h4⟩:=h;refine ⟨G,D,K,E,⟨h1.gi,h1.ni,h1.ln,λm hm=>⟨(h1.mi m hm).1,(h1.mi m hm).2.mono az⟩,λj hj=>?_,λj hj=>cK (h1.tb j hj) az,h1.lo⟩,⟨h2.kl,h2.kd,h2.ld,h2.ly,h2.cl,h2.lg,h2.el,h2.ek,h2.pl⟩,by show _+db n (λj=>pt D j (T.nd j))+_<=_;omega,h4⟩;have hj:(if j=i then false else T.up j)=true:=hj;split at hj
 ·cases hj
 ·exact h1.up j hj
theorem Aw.QE (h:Aw z n a T) (hi:i<n):Aw z n (a+1) (T.QE i):=by
 unfold Cs.QE;split
 ·exact h.more
 ·obtain ⟨G,D,K,E,h1,h2,h3,h4⟩:=h;have hback:∀j,(if j=i then X.back (T.nd i) else T.nd j)=if j=i then X.back (T.nd j) else T.nd j:=λj=>by
   split
   ·rename_i e1;rw [e1]
   ·rfl
  have PO:∀j,(⟨λj=>if j=i then X.back (T.nd i) else T.nd j,λj=>if j=i then true else T.up j,T.q,T.lo⟩:Cs ρ).nd j=if j=i then X.back (T.nd j) else T.nd j:=hback
  refine ⟨G,D,K,E,⟨h1.gi,λj hj=>?_,λj hj=>?_,λm hm=>⟨(h1.mi m hm).1,(h1.mi m hm).2.mono az⟩,λj hj=>?_,λj hj=>?_,h1.lo⟩,⟨h2.kl,h2.kd,λj hj hl=>?_,h2.ly,h2.cl,λj hj=>?_,λj hj t=>?_,h2.ek,λj hj=>?_⟩,?_,h4⟩
  ·rw [PO];split
   ·exact (h1.ni j hj).back
   ·exact h1.ni j hj
  ·grind [LN.back,h1.ln]
  ·have hj:(if j=i then true else T.up j)=true:=hj;split at hj
   ·rename_i e1;subst e1;exact hi
   ·exact h1.up j hj
  ·rw [PO];have h9:(if j=i then X.back (T.nd j) else T.nd j).Ow=(T.nd j).Ow:=by split<;>rfl
   rw [h9];exact cK (h1.tb j hj) az
  ·rw [PO] at hl ⊢;split at hl
   ·rw [show (X.back (T.nd j)).Oy=false from rfl] at hl;cases hl
   ·grind [h2.ld]
  ·rw [PO];split
   ·exact h2.lg j hj
   ·exact h2.lg j hj
  ·rw [PO];split
   ·exact h2.el j hj t
   ·exact h2.el j hj t
  ·rw [PO];split
   ·exact (h2.pl j hj).of rfl (nI zY)
   ·exact h2.pl j hj
  ·have h5:=gG n (λj=>if j=i then pt D i (T.nd i)+1 else pt D j (T.nd j)) (λj=>pt D j (if j=i then X.back (T.nd i) else T.nd j)) (λj _=>by
    split
    ·rename_i e1;rw [e1];unfold pt;show 0+(if (T.nd i).OC=((T.nd i).own:Int) then (if ((T.nd i).Ow,i)∈D then (if false=true then 0 else 1) else 8) else 0)<=_;split
     ·split
      ·simp
      ·omega
     ·omega
    ·exact ah _)
   have h6:=jd n i (λj=>pt D j (T.nd j)) (λj=>if j=i then pt D i (T.nd i)+1 else pt D j (T.nd j)) hi (λj hj=>by show (if j=i then _ else _)=_;rw [am hj]);simp only [if_true] at h6;show 8*D.length+db n (λj=>pt D j (if j=i then X.back (T.nd i) else T.nd j))+E.length<=_;omega
theorem Aw.tick (h:Aw z n a T) (ha:a<=1000) (hi:i<n):Aw z n (a+1) (T.tick z e i):=by
 unfold Cs.tick;split
 ·obtain ⟨G,D,K,E,h1⟩:=h;obtain ⟨G',hby,UK⟩:=S4.U4 (e:=e) h1.wk az hi;have OP:=h1.wk.ni i hi;have SV:=h1.wk.tb i hi;have ho:(T.nd i).own<(T.nd i).n:=p8;refine h1.turn (q:=T.q) hi hby (by rw [show ((a+1:Nat):Int)=(a:Int)+1 by omega];exact UK) (λx hx=>hx) (y9 ho az) (λD' E' VP hD=>?_);rcases dT (z:=z) (e:=e) (T.nd i) with ⟨g1,g2⟩ | ⟨g1,g2,g3,g4⟩ | ⟨g1,g2,g3,g4⟩ | ⟨g1,g2,g3,g4⟩
  ·rw [g2] at VP hD ⊢;have hd0:=(h1.pw.ld i hi g1).1;rcases VP with ⟨k1,k2⟩ | ⟨k1,_,⟨k2,_⟩ | ⟨_,k2⟩⟩
   ·grind [pt]
   ·grind [pt]
   ·exact absurd hd0 k2
  ·rw [g4,fu ho az] at VP hD ⊢;by_cases hn:(T.nd i).n=1
   ·rw [ay hn] at VP hD ⊢;have hl:=ee (z:=z) (e:=e) (dc (T.nd i));have hp:pt D' i (lead z e (dc (T.nd i))).2=0:=by
     unfold pt;rw [hl.Ox,hl.Oy,ay (hD hl.Oy)];split<;>rfl
    have PT:n=1:=by rw [<-OP.nn];exact hn
    have h8:7<=pt D i (T.nd i):=by unfold pt;omega
    rw [hp];unfold one;rw [ay PT,ay PT];rcases VP with ⟨k1,k2⟩ | ⟨k1,_,⟨k2,_⟩ | ⟨k2,_⟩⟩
    ·rw [k1,k2];omega
    ·rw [k1,k2];omega
    ·rw [k1,k2,aX];omega
   ·rw [am hn] at VP hD ⊢;have SD:(dc (T.nd i)).Oy=false:=by show ((T.nd i).Oy&&_)=false;rw [g1];rfl
    rcases VP with ⟨k1,k2⟩ | ⟨_,k2,_⟩
    ·grind [pt,dc]
    ·grind
  ·grind [pt,Nat.add_right_comm]
  ·grind [pt,Nat.add_right_comm]
 ·exact h.more
theorem Aw.PY (h:Aw z n a T) (hi:i<n) (x:ρ):Aw z n (a+1) (T.PY z i x):=by
 unfold Cs.PY;split
 ·obtain ⟨G,D,K,E,h1⟩:=h;have OP:=h1.wk.ni i hi;have hs:=ko (z:=z) (s:=T.nd i) x;have UX:=OP.t0;have SV:=h1.wk.tb i hi;obtain ⟨G',hby,UK⟩:=h1.wk.call (i:=i) hi (oW h1.wk.gi OP x) ((h1.wk.ln i hi).OH p8 x) (by rw [hs.Ow];exact SV) (λy hy=>by
   obtain ⟨d,d1,d2,rfl⟩:=hs.out y hy;obtain ⟨p1,p2,p3,p4,p5,p6,p7⟩:=fx (X.OH z (T.nd i) x).2.2 d;have ht:(X.OH z (T.nd i) x).2.2.Ow=(T.nd i).Ow:=hs.Ow;have ho:(X.OH z (T.nd i) x).2.2.own=(T.nd i).own:=hs.own;rw [OP.nn] at d1;rw [OP.own] at d2;exact ⟨⟨d,i,d1,hi,F5 d2,p2,by rw [p3,ho,OP.own]⟩,by unfold bI;simp,by rw [p4,ht];exact UX,by rw [p4,ht];exact SV⟩)
  refine h1.turn (q:=T.q) hi hby (UK.mono az) (λx hx=>hx) (Av x) (λD' E' VP hD=>?_);have Q3:(X.OH z (T.nd i) x).2.2.Ox=(T.nd i).Ox/\(X.OH z (T.nd i) x).2.2.OC=(T.nd i).OC:=by
   unfold X.OH;split
   ·exact ⟨rfl,rfl⟩
   ·grind [df,place]
  have hp:∀D,pt D i (X.OH z (T.nd i) x).2.2=pt D i (T.nd i):=λD=>by
   grind [pt,hs.Ow,hs.own,hs.Oy]
  have hp':=hp D;rcases VP with ⟨k1,k2⟩ | ⟨k1,k3,⟨k2,_⟩ | ⟨_,k2⟩⟩
  ·grind
  ·grind
  ·exfalso;have k3:(X.OH z (T.nd i) x).2.2.Oy=true:=k3;have e3:(X.OH z (T.nd i) x).2.2.Oy=(T.nd i).Oy:=hs.Oy;have e1:(X.OH z (T.nd i) x).2.2.Ow=(T.nd i).Ow:=hs.Ow;rw [e3] at k3;have:=(h1.pw.ld i hi k3).1;apply k2;show ((X.OH z (T.nd i) x).2.2.Ow,i)∈D;rw [e1];exact this
 ·exact h.more
end
section
variable {ρ:Type} {z:ρ->Bool} {e:ρ} {s s':Nd ρ} {n i c a κ Λ:Nat} {b b' t t' B B':Int} {x m:Ms ρ} {S T T':Cs ρ} {G G':Gh ρ} {q:List (Ms ρ)} {K K':Int->Lg ρ} {D D':List (Int×Nat)} {E:List Int} {l l' Lt Yl:Lg ρ} {r:List (Ms ρ)×Nd ρ} {st:Nat->Nat}
theorem QS.comes (hG:QS z n b G T) (hb:b<=1099511627776) (Rc:m∈T.q) (O1:∀x∈q,x∈T.q) :
  ∃i,i<n/\m.dst=(i:Int)/\m.dst.toNat=i/\QM (T.nd i) m (X.get z e (T.nd i) m)/\m.OD≠(i:Int)/\∃G',By i G G'/\QS z n b G' ((T.wq q).call i (X.get z e (T.nd i) m)):=by
 obtain ⟨hmi,ZO⟩:=hG.mi m Rc;have YB:QS z n b G (T.wq q):=hG.sub O1;obtain ⟨i,h1,h2,h3,h4⟩:=Wk.got (z:=z) (e:=e) (S:=T) ⟨G,hG⟩ hb ZO;have OP:=hG.ni i h1;have SV:=hG.tb i h1;have WU:=ZO.tb;have ht:(X.get z e (T.nd i) m).2.Ow<=b:=by have:=h4.top;omega
 have hfA:m.OD≠(i:Int):=by
  grind [ZO.f]
 obtain ⟨G',hby,h5⟩:=YB.call (i:=i) h1 (yC (e:=e) hG.gi OP hmi) ((hG.ln i h1).get OP.own OP.nn h1) ht (λx hx=>by
  obtain ⟨o1,o2,o3,_⟩:=h4.out x hx;obtain ⟨j,d1,d2,d3⟩:=ut OP.own OP.nn x hx ZO h2;have QW:=h4.up;have UX:=OP.t0;exact ⟨⟨j,i,d1,h1,by omega,d3,by rw [o1,OP.own]⟩,o3,by rw [o2];omega,by rw [o2];exact ht⟩)
 exact ⟨i,h1,h2,h3,h4,hfA,G',hby,h5⟩
theorem ur (Qe:QM s m (X.get z e s m)) (Pr:LN s) (hn:s.n=n) (O8:n<=5) (ho:s.own<n) (QJ:s.agreed<=s.Oz.length) (h:(X.get z e s m).2.Oy=true) (h0:s.Oy=false):m.kind≠3/\OV s=true/\(X.get z e s m).2.Ow=s.Ow:=by
 have hk:m.kind≠3:=λhk=>by
  have:=(ru (z:=z) (e:=e) (s:=s) (n:=n) (Λ:=0) (st:=0) hk).2.2.2.1 h;rw [h0] at this;cases this
 obtain ⟨_,_,g3⟩:=mZ (z:=z) (e:=e) (s:=s) (n:=n) (Λ:=(X.get z e s m).2.Oz.length) (st:=0) (m:=m) hk Pr hn O8 ho QJ (λ_ _=>ah _);exact ⟨hk,(g3 h h0).1,(g3 h h0).2.1⟩
theorem wF (Qe:QM s m (X.get z e s m)) (h:(X.get z e s m).2.Oy=true) (hl:(X.get z e s m).2.Oz.length=s.Oz.length+1):s.Oy=false:=by
 cases h0:s.Oy with
 | false=>rfl
 | true =>
  exfalso;by_cases hk:m.kind=3
  ·have h1:(X.get z e s m).2.Ow=s.Ow:=by
    grind [Qe.Oy]
   have h2:=Qe.reach;rw [qZ hk h0 az] at hl;omega
  ·rw [iw hk (.inr h0)] at hl;omega
theorem Lm (Qe:QM s m (X.get z e s m)) (Pr:LN s) (hn:s.n=n) (O8:n<=5) (ho:s.own<n) (QJ:s.agreed<=s.Oz.length) (hD:(X.get z e s m).2.Oy=true->((X.get z e s m).2.Ow,i)∈D):pt D i (X.get z e s m).2<=pt D i s:=by
 have ht:=Qe.Ox;have how:=Qe.own;have hc:=wG (z:=z) (e:=e) (s:=s) (m:=m) Pr hn O8 ho QJ;unfold pt;rw [how];by_cases h1:(X.get z e s m).2.OC=(s.own:Int)
 ·grind [OV,eV]
 ·rw [am h1];omega
theorem Aw.comes (h:Aw z n a T) (O8:n<=5) (ha:a<=1000) (hm:m∈T.q) (hq:∀x∈q,x∈T.q):Aw z n (a+1) ((T.wq q).bring z e m):=by
 obtain ⟨G,D,K,E,h1⟩:=h;obtain ⟨i,i1,i2,i3,i4,i5,G',hby,UK⟩:=h1.wk.comes (e:=e) (q:=q) az hm hq;unfold Cs.bring;rw [i3];split
 ·have OP:=h1.wk.ni i i1;have ho:(T.nd i).own<n:=by rw [OP.own];exact i1
  refine h1.turn (r:=X.get z e (T.nd i) m) i1 hby (UK.mono az) hq (Fb h1.wk.gi OP (h1.wk.mi m hm).1 i4 h1.pw.kl (λhk=>h1.pw.ly m hm hk)) (λD' E' VP hD=>?_);have hp:=Lm i4 (h1.wk.ln i i1) OP.nn O8 ho OP.ag.1 hD;rcases VP with ⟨k1,k2⟩ | ⟨k1,k3,⟨k2,_⟩ | ⟨k2,k4⟩⟩
  ·rw [k1,k2];rw [k2] at hp;omega
  ·rw [k1,k2];rw [k2] at hp;omega
  ·have h0:(T.nd i).Oy=false:=by
    cases h0:(T.nd i).Oy with
    | false=>rfl
    | true =>
     exfalso;have h9:=(h1.pw.ld i i1 h0).1;rcases i4.Oy k3 with g | g
     ·rw [<-g.2] at h9;exact k4 h9
     ·rw [h0] at g;cases g.2.2.2.2
   obtain ⟨_,c1,c2⟩:=ur i4 (h1.wk.ln i i1) OP.nn O8 ho OP.ag.1 k3 h0;obtain ⟨c3,c4⟩:=eV c1;have e1:pt D i (T.nd i)=(T.nd i).Ox+8:=by
    grind [pt]
   have e2:pt D' i (X.get z e (T.nd i) m).2<=(T.nd i).Ox:=by
    grind [pt,i4.Ox]
   have e3:one n D<=one n D':=by
    grind [one,aX]
   have e4:D'.length=D.length+1:=by rw [k2,aX]
   omega
 ·obtain ⟨a1,a2,a3,a4⟩:=h1;exact ⟨G,D,K,E,(a1.sub hq).mono az,a2.sub hq,by show 8*D.length+db n (λj=>pt D j (T.nd j))+E.length<=_;omega,a4⟩
structure Cw (z:ρ->Bool) (n:Nat) (b:Int) (T:Cs ρ) (G:Gh ρ) (D:List (Int×Nat)) (K:Int->Lg ρ) (E:List Int) (st:Nat->Nat) (κ Λ:Nat):Prop where
 wk:QS z n b G T
 pw:Pw n G T D K E
 rd:D.length+RR n T st<=κ
 re:E.length+RR n T st<=Λ
theorem uJ (hi:i<n) (hu:T.up i=true) {d:Nat} (h:rr r.2 (st i)+d<=rr (T.nd i) (st i)):RR n ((T.wq q).call i r) st+d<=RR n T st:=by
 have e2:=jd n i (λj=>if T.up j=true then rr (T.nd j) (st j) else 0) (λj=>if ((T.wq q).call i r).up j=true then rr (((T.wq q).call i r).nd j) (st j) else 0) hi (λj hj=>by
  rw [bf,am hj];rfl)
 have e3:(if ((T.wq q).call i r).up i=true then rr (((T.wq q).call i r).nd i) (st i) else 0)=rr r.2 (st i):=by
  rw [bf,ay rfl];exact ay hu
 simp only [hu,if_true] at e2;rw [e3] at e2;unfold RR;omega
theorem Kb (h:Cw z n b T G D K E st κ Λ) (O8:n<=5) (hb:b<=1099511627776) (hq:T.q=m::q) :
  ∃G' D' K' E',Cw z n b ((T.wq q).bring z e m) G' D' K' E' st κ Λ/\WW n Λ G' ((T.wq q).bring z e m) st+1<=WW n Λ G T st/\∀j,(((T.wq q).bring z e m).nd j).Ox<=(T.nd j).Ox:=by
 have Rc:m∈T.q:=Bl;have O1:∀x∈q,x∈T.q:=λx hx=>yg;obtain ⟨h1,h2,h3,h4⟩:=h;obtain ⟨G',c',a1,a2,a3,a4,a5,a6⟩:=Ka (z:=z) (e:=e) (Λ:=Λ) (st:=st) h1 O8 hb (c:=E.length) ⟨h2.lg,λx hx hk=>aF (h2.ly x hx hk) (h2.cl _)⟩ h4 hq;obtain ⟨i,i1,i2,i3,i4,i5,_⟩:=h1.comes (e:=e) (q:=q) hb Rc O1;rw [i3] at a6;rcases a6 with ⟨hu,hby⟩ | ⟨hu,hby⟩
 ·have hbr:(T.wq q).bring z e m=(T.wq q).call i (X.get z e (T.nd i) m):=by
   unfold Cs.bring;rw [i3,ay (show (T.wq q).up i=true from hu)];rfl
  rw [hbr] at a1 a2 a3 a4 ⊢;have OP:=h1.ni i i1;have ho:(T.nd i).own<n:=by rw [OP.own];exact i1
  obtain ⟨D',K',E',p1,p2,p3⟩:=h2.step i1 hby a1 O1 (Fb h1.gi OP (h1.mi m Rc).1 i4 h2.kl (λhk=>h2.ly m Rc hk));have X0:rr (X.get z e (T.nd i) m).2 (st i)<=rr (T.nd i) (st i):=by
   by_cases k3:m.kind=3
   ·exact tJ (ru (z:=z) (e:=e) (s:=T.nd i) (n:=n) (Λ:=0) (st:=st i) k3).1
   ·exact tJ (mZ (z:=z) (e:=e) (s:=T.nd i) (n:=n) (Λ:=(X.get z e (T.nd i) m).2.Oz.length) (st:=st i) (m:=m) k3 (h1.ln i i1) OP.nn O8 ho OP.ag.1 (λ_ _=>ah _)).1
  have hR0:=uJ (q:=q) (r:=X.get z e (T.nd i) m) (d:=0) i1 hu az;refine ⟨G',D',K',E',⟨a1,p1,?_,?_⟩,a4,λj=>?_⟩
  ·rcases p2 with ⟨k1,k2⟩ | ⟨k1,k3,k2⟩
   ·rw [k2];omega
   ·have h0:=wF i4 k3 (p3 az);obtain ⟨_,c1,c2⟩:=ur i4 (h1.ln i i1) OP.nn O8 ho OP.ag.1 k3 h0;have hr1:rr (X.get z e (T.nd i) m).2 (st i)=st i:=gC k3;have hr2:rr (T.nd i) (st i)=st i+1:=by unfold rr;rw [c1];rfl
    have hR1:=uJ (q:=q) (st:=st) (r:=X.get z e (T.nd i) m) (d:=1) i1 hu (by rw [hr1,hr2];exact ah _);rcases k2 with ⟨k2,_⟩ | ⟨k2,_⟩
    ·rw [k2];omega
    ·rw [k2,aX];omega
  ·rcases p2 with ⟨k1,k2⟩ | ⟨k1,k3,k2⟩
   ·rw [k1];omega
   ·have h0:=wF i4 k3 (p3 az);obtain ⟨_,c1,c2⟩:=ur i4 (h1.ln i i1) OP.nn O8 ho OP.ag.1 k3 h0;have hr1:rr (X.get z e (T.nd i) m).2 (st i)=st i:=gC k3;have hr2:rr (T.nd i) (st i)=st i+1:=by unfold rr;rw [c1];rfl
    have hR1:=uJ (q:=q) (st:=st) (r:=X.get z e (T.nd i) m) (d:=1) i1 hu (by rw [hr1,hr2];exact ah _);omega
  ·rw [bf];split
   ·rename_i e1;rw [e1];have:=i4.Ox;omega
   ·exact ah _
 ·have hbr:(T.wq q).bring z e m=T.wq q:=by
   unfold Cs.bring;rw [i3,am (show ¬(T.wq q).up i=true by show ¬T.up i=true;rw [hu];simp)]
  rw [hbr] at a4 ⊢;refine ⟨G',D,K,E,⟨by rw [hby];exact h1.sub O1,by rw [hby];exact h2.sub O1,h3,h4⟩,a4,λj=>ah _⟩
end
section
variable {ρ:Type} {z:ρ->Bool} {e:ρ} {s s':Nd ρ} {n i c a κ Λ k:Nat} {b b' t t' B B':Int} {x m:Ms ρ} {S T T':Cs ρ} {G G':Gh ρ} {q:List (Ms ρ)} {K K':Int->Lg ρ} {D D':List (Int×Nat)} {E:List Int} {l l' Lt Yl:Lg ρ} {r:List (Ms ρ)×Nd ρ} {st:Nat->Nat}
structure Tc (n Λ:Nat) (G:Gh ρ) (i:Nat) (s:Nd ρ) (st:Nat) (r:Nd ρ) (k:Nat):Prop where
 lay:∀x:Ms ρ,fY r k x<=fY s st x
 no:∀x:Ms ρ,rS r k x<=rS s st x
 rr:rr r k<=X.rr s st
 nd:∀G',By i G G'->dM n Λ r k+iZ G' r k i<=dM n Λ s st+iZ G s st i
 Oz:r.Oz=s.Oz
theorem Ft {st:Nat} (hg:GI n G) (OP:NI z n G i s) (hby:By i G G') (h1:s'.own=s.own) (h2:s'.Oy=s.Oy) (h3:s'.Ow=s.Ow) (h4:s'.OC=s.OC) (h5:s'.Oz=s.Oz) (h6:s'.agreed=s.agreed):iZ G' s' st i<=iZ G s st i:=by
 have hc:OV s'=OV s:=by unfold OV;rw [h1,h2,h4]
 have hu:cL s'=cL s:=by unfold cL;rw [h3,h5,h6]
 unfold iZ;rw [hc,h3,hu];split
 ·rename_i h;have u0:G.O7 s.Ow=none->cL s=0:=λhq=>CY hg OP (by have:=(eV h.1).2;rw [this,OP.own]) hq;cases hq:G.O7 s.Ow with
  | none=>rw [u0 hq];simp
  | some f =>
   have:=(hby.le.O7 _ _ hq).1;rw [this] at h;rw [ay h];exact ah _
 ·exact aH _
theorem Aj (h:bC s.Oz s.Oz.length<t) (Qo:SF G.L s.Oz) (hs:s'.Oz=s.Oz) (ht:s'.Ow=t):cL s'=0:=by
 unfold cL;rw [bP,List.filter_eq_nil_iff];intro x hx;rw [hs] at hx;have hx:=gV hx;obtain ⟨k,hk,rfl⟩:=sn hx;have h6:=Qo.up (k+1) s.Oz.length az (ah _);rw [mW _ _ hk] at h6;rw [ht];simp;omega
theorem Gi (hg:GI n G) (OP:NI z n G i s) (Pf:2<=n) (hi:i<n) (ht:s.Ow<1099511627776) (hst:8<=s.Ox+1->1<=k) :
  ∃k',Tc n Λ G i s k (X.tick z e s).2 k'/\((k'=k/\(X.tick z e s).2.Ox<=s.Ox+1)\/(k'+1=k/\(X.tick z e s).2.Ox=0/\8<=s.Ox+1)):=by
 have ho:s.own<s.n:=p8;have same:∀s':Nd ρ,s'.own=s.own->s'.Oy=s.Oy->s'.Ow=s.Ow->s'.OC=s.OC->s'.Oz=s.Oz->s'.agreed=s.agreed->s'.OE=s.OE->s'.next=s.next->Tc n Λ G i s k s' k:=λs' h1 h2 h3 h4 h5 h6 h7 h8=>by
  have hc:OV s'=OV s:=by unfold OV;rw [h1,h2,h4]
  have hs:=jh (n:=n) (Λ:=Λ) (st:=k) h1 h2 h3 h7 hc;refine ⟨hs.lay,hs.no,by unfold X.rr;rw [hc];exact ah _,λG' hby=>?_,h5⟩;rw [i8 h1 h2 h3 h7 hc h8 h5 h6];have:=Ft (st:=k) hg OP hby h1 h2 h3 h4 h5 h6;omega
 rcases dT (z:=z) (e:=e) s with ⟨h1,h2⟩ | ⟨h1,h2,h3,h4⟩ | ⟨h1,h2,h3,h4⟩ | ⟨h1,h2,h3,h4⟩
 ·grind
 ·rw [h4,fu ho ht,am (by rw [OP.nn];omega)];have SD:(dc s).Oy=false:=KW;have hr:X.rr (dc s) (k - 1)<=k:=by unfold X.rr;split<;>omega
  have hr2:k<=X.rr s k:=by unfold X.rr;omega
  refine ⟨k - 1,⟨λx=>?_,λx=>?_,by show X.rr (dc s) (k - 1)<=_;omega,λG' hby=>?_,rfl⟩,.inr ⟨by omega,rfl,h2⟩⟩
  ·grind [fY,dc,bk]
  ·grind [rS,dc,bk]
  ·have hu:cL (dc s)=0:=Aj (t:=s.Ow+1) (by have:=OP.top;omega) OP.ok rfl rfl;have he:iZ G' (dc s) (k - 1) i=0:=by unfold iZ;rw [hu];simp
   have hb:=pU n Λ (aF hr hr2);rw [he];unfold dM;rw [SD,h1];simp only [bk,if_false];omega
 ·grind
 ·grind
theorem J8 (h:Cw z n b T G D K E st κ Λ) (Pf:2<=n) (O8:n<=5) (hb:b+1<=1099511627776) (hi:i<n) (hst:T.up i=true->8<=(T.nd i).Ox+1->1<=st i) :
  ∃G' D' K' E' ZE,Cw z n (b+1) (T.tick z e i) G' D' K' E' ZE κ Λ/\(st i<=1->WW n Λ G' (T.tick z e i) ZE<=WW n Λ G T st+30)/\(∀j,j≠i->ZE j=st j/\(T.tick z e i).nd j=T.nd j) /\
   ((ZE i=st i/\((T.tick z e i).nd i).Ox<=(T.nd i).Ox+1)\/(ZE i+1=st i/\((T.tick z e i).nd i).Ox=0/\8<=(T.nd i).Ox+1)):=by
 cases hu:T.up i with
 | false =>
  have e0:T.tick z e i=T:=by unfold Cs.tick;rw [hu];rfl
  rw [e0];exact ⟨G,D,K,E,st,⟨h.wk.mono az,h.pw,h.rd,h.re⟩,λ_=>by omega,λj _=>⟨rfl,rfl⟩,.inl ⟨rfl,by omega⟩⟩
 | true =>
  have e0:T.tick z e i=T.call i (X.tick z e (T.nd i)):=by unfold Cs.tick;rw [hu];rfl
  rw [e0];have OP:=h.wk.ni i hi;have SV:=h.wk.tb i hi;have ho:(T.nd i).own<(T.nd i).n:=p8;obtain ⟨G',hby,UK⟩:=S4.U4 (e:=e) h.wk hb hi;obtain ⟨k',tc,hk⟩:=Gi (e:=e) (Λ:=Λ) (k:=st i) h.wk.gi OP Pf hi az (hst hu);obtain ⟨D',K',E',p1,p2,p3⟩:=h.pw.step (q:=T.q) hi hby UK (λx hx=>hx) (y9 ho az);have hDE:E'=E/\D'=D:=by
   grind [tc.Oz]
  obtain ⟨rfl,rfl⟩:=hDE;have hR:RR n (T.call i (X.tick z e (T.nd i))) (λj=>if j=i then k' else st j)<=RR n T st:=by
   refine gG n _ _ λj hj=>?_;show (if T.up j=true then X.rr (if j=i then (X.tick z e (T.nd i)).2 else T.nd j) (if j=i then k' else st j) else 0)<=_;split
   ·grind [tc.rr]
   ·exact ah _
  refine ⟨G',D',K',E',λj=>if j=i then k' else st j,⟨UK,p1,by have:=h.rd;omega,by have:=h.re;omega⟩,λhs1=>?_,λj hj=>⟨am hj,by rw [bf,am hj]⟩,?_⟩
  ·have tk:=(Wk.tk (e:=e) ⟨G,h.wk⟩ hb i hi).1;have VO:WW n Λ G' (T.call i (X.tick z e (T.nd i))) (λj=>if j=i then k' else st j)=(T.q.map (kR (T.call i (X.tick z e (T.nd i))) (λj=>if j=i then k' else st j))).sum+((X.tick z e (T.nd i)).1.map (kR (T.call i (X.tick z e (T.nd i))) (λj=>if j=i then k' else st j))).sum+db n (fB n Λ G' (T.call i (X.tick z e (T.nd i))) (λj=>if j=i then k' else st j)):=by
    show (((T.q++(X.tick z e (T.nd i)).1).map _).sum)+_=_;rw [cy,IG]
   have h1:(T.q.map (kR (T.call i (X.tick z e (T.nd i))) (λj=>if j=i then k' else st j))).sum<=(T.q.map (kR T st)).sum:=ze _ _ _ λx _=>by
    unfold kR;split
    ·rw [bf];split
     ·rename_i hj;simp only [hj,if_true];exact tc.lay x
     ·grind
    ·rw [bf];split
     ·rename_i hj;simp only [hj,if_true];unfold uN;split
      ·exact ah _
      ·split
       ·exact tc.no x
       ·exact ah _
     ·grind
   have h2:=qB (X.tick z e (T.nd i)).1 (kR (T.call i (X.tick z e (T.nd i))) (λj=>if j=i then k' else st j)) 6 (λx hx=>by
    obtain ⟨o1,o2,o3,o4,o5⟩:=tk.out x hx;unfold kR;rcases o5 with o5 | o5 | o5
    ·grind [uN]
    ·grind [bU,bf,qi,OP.own]
    ·rw [am (by rw [o5.1];decide)];unfold uN;rw [am (by rw [o5.1];decide),am (by rw [o5.1];intro h;exact absurd h.1 dZ)];omega)
   have h3:=tk.num;rw [OP.nn] at h3;have h4:db n (fB n Λ G' (T.call i (X.tick z e (T.nd i))) (λj=>if j=i then k' else st j))<=db n (fB n Λ G T st):=gG n _ _ λj hj=>by
    unfold fB;show (if T.up j=true then dM n Λ (if j=i then (X.tick z e (T.nd i)).2 else T.nd j) (if j=i then k' else st j)+iZ G' (if j=i then (X.tick z e (T.nd i)).2 else T.nd j) (if j=i then k' else st j) j else 0)<=_;split
    ·by_cases e1:j=i
     ·simp only [ay e1];rw [e1];exact tc.nd G' hby
     ·simp only [am e1];have:=te (s:=T.nd j) (st:=st j) hby e1;omega
    ·exact ah _
   have h5:(X.tick z e (T.nd i)).1.length*6<=24:=az;rw [VO];have hW:WW n Λ G T st=(T.q.map (kR T st)).sum+db n (fB n Λ G T st):=rfl;omega
  ·grind [bf]
end
section
variable {ρ:Type} {z:ρ->Bool} {e:ρ} {s s':Nd ρ} {n i c a κ Λ k:Nat} {b b' t t' B B':Int} {x m:Ms ρ} {S T T':Cs ρ} {G G':Gh ρ} {q:List (Ms ρ)} {K K':Int->Lg ρ} {D D':List (Int×Nat)} {E:List Int} {l l' Lt Yl:Lg ρ} {r:List (Ms ρ)×Nd ρ} {st:Nat->Nat}
theorem fW (n:Nat) (f g:Nat->Nat):db n (λj=>f j+g j)=db n f+db n g:=by
 induction n with
 | zero=>rfl
 | succ n ih=>rw [dj,dj,dj,ih];omega
theorem je (n c:Nat) (f:Nat->Nat):db n (λj=>c*f j)=c*db n f:=by
 induction n with
 | zero=>rfl
 | succ n ih=>rw [dj,dj,ih,Nat.mul_add]
theorem Kc (n c:Nat):db n (λ_=>c)=n*c:=by
 induction n with
 | zero=>simp [db]
 | succ n ih=>rw [dj,ih,nD]
theorem u8 {α:Type} [BEq α] [LawfulBEq α] (n:Nat) (P:Nat->Bool) (key:Nat->α) (hi:∀i j,i<n->j<n->P i=true->P j=true->key i=key j->i=j) (L:List α):db n (λj=>if P j=true then L.count (key j) else 0)<=L.length:=by
 induction L with
 | nil =>
  have:=ij n 0 (λj=>if P j=true then ([]:List α).count (key j) else 0) (λj _=>by split<;>simp);simpa using this
 | cons a L ih =>
  have h1:db n (λj=>if P j=true then (a::L).count (key j) else 0)=db n (λj=>(if P j=true then L.count (key j) else 0)+(if (P j&&(a==key j))=true then 1 else 0)):=jf n _ _ λj _=>by
   grind
  have h2:db n (λj=>if (P j&&(a==key j))=true then 1 else 0)<=1:=oU n 1 _ (λj _=>by split<;>omega) (λi j O9 Vv h3 h4=>by
   have h3:(P i&&(a==key i))=true:=bz λh=>h3 (am h);have h4:(P j&&(a==key j))=true:=bz λh=>h4 (am h);simp only [bu,cE] at h3 h4;exact hi i j O9 Vv h3.1 h4.1 (h3.2.symm.trans h4.2))
  rw [h1,fW,aX];omega
def nA (T:Cs ρ) (D:List (Int×Nat)) (n:Nat):Nat:=db n λj=>if OV (T.nd j)=true/\((T.nd j).Ow,j)∉D then 1 else 0
def nB (T:Cs ρ) (D:List (Int×Nat)) (n:Nat):Nat:=db n λj=>if OV (T.nd j)=true/\((T.nd j).Ow,j)∈D then 1 else 0
def nC (T:Cs ρ) (n:Nat):Nat:=db n λj=>if (T.nd j).Oy=true then 1 else 0
def nU (T:Cs ρ) (n:Nat):Nat:=db n λj=>if T.up j=true then 1 else 0
theorem LB (D:List (Int×Nat)):nA T D n+nB T D n+nC T n<=n:=by
 unfold nA nB nC;rw [<-fW,<-fW];have:=ij n 1 (λj=>(if OV (T.nd j)=true/\((T.nd j).Ow,j)∉D then 1 else 0)+(if OV (T.nd j)=true/\((T.nd j).Ow,j)∈D then 1 else 0)+(if (T.nd j).Oy=true then 1 else 0)) (λj _=>by
  by_cases h1:OV (T.nd j)=true
  ·rw [(eV h1).1];by_cases h2:((T.nd j).Ow,j)∈D<;>simp [h1,h2]
  ·simp [h1];split<;>omega)
 omega
theorem Pw.bc (h:Pw n G T D K E):nB T D n+nC T n<=D.length:=by
 have h1:=u8 n (λj=>decide (((T.nd j).Ow,j)∈D)) (λj=>((T.nd j).Ow,j)) (λi j _ _ _ _ h=>by simpa using (Prod.mk.inj h).2) D;refine aF ?_ h1;unfold nB nC;rw [<-fW];refine gG n _ _ λj hj=>?_;by_cases h2:((T.nd j).Ow,j)∈D
 ·by_cases h1:OV (T.nd j)=true
  ·grind [eV]
  ·grind
 ·grind [h.ld]
theorem S4.ab (h:S4 z n a T G D K E) (Pf:2<=n):8*D.length+8*nA T D n+nB T D n+E.length<=a:=by
 have h1:=h.RA;unfold one at h1;rw [am az] at h1;have h2:8*nA T D n+nB T D n<=db n (λj=>pt D j (T.nd j)):=by
  unfold nA nB;rw [<-je,<-fW];refine gG n _ _ λj hj=>?_;by_cases h1:OV (T.nd j)=true
  ·obtain ⟨h3,h4⟩:=eV h1;unfold pt;rw [ay h4,h3];by_cases h2:((T.nd j).Ow,j)∈D
   ·simp [h1,h2]
   ·simp [h1,h2]
  ·simp [h1]
 omega
theorem NM (R0:Nat) (D:List (Int×Nat)):RR n T (λ_=>R0)<=R0*nU T n+nA T D n+nB T D n:=by
 unfold RR nA nB nU;rw [<-je,<-fW,<-fW];refine gG n _ _ λj _=>?_;unfold rr;by_cases hu:T.up j=true
 ·grind
 ·simp [hu]
theorem NL (R0:Nat):RR n T (λ_=>R0)<=(R0+1)*nU T n:=by
 unfold RR nU;rw [<-je];refine gG n _ _ λj _=>?_;unfold rr;by_cases hu:T.up j=true
 ·simp only [hu,if_true];split<;>omega
 ·simp [hu]
theorem Ak (hw:QS z n b G T) (h:Pw n G T D K E):db n (λj=>if decide ((T.nd j).Oy=true\/(OV (T.nd j)=true/\G.O7 (T.nd j).Ow=some j))=true then cL (T.nd j) else 0)<=E.length:=by
 have h1:=u8 n (λj=>decide ((T.nd j).Oy=true\/(OV (T.nd j)=true/\G.O7 (T.nd j).Ow=some j))) (λj=>(T.nd j).Ow) (λi j hi hj h1 h2 h3=>by
  have T6:∀j,j<n->decide ((T.nd j).Oy=true\/(OV (T.nd j)=true/\G.O7 (T.nd j).Ow=some j))=true->G.O7 (T.nd j).Ow=some j:=λj hj h=>by
   rcases gT h with g | g
   ·exact ((hw.ni j hj).UC g).1
   ·exact g.2
  have g1:=T6 i hi h1;have g2:=T6 j hj h2;have h3:(T.nd i).Ow=(T.nd j).Ow:=h3;rw [h3,g2] at g1;exact (rV g1).symm) E
 refine aF (gG n _ _ λj hj=>?_) h1;show (if _ then _ else _)<=if _ then _ else _
 split
 ·refine aF ?_ (h.el j hj (T.nd j).Ow);unfold cL ct;exact ((List.drop_sublist _ _).filter _).length_le
 ·exact ah _
theorem GK (hw:QS z n b G T) (h:Pw n G T D K E):db n (fB n Λ G T (λ_=>1))<=n*(4*n*Λ+40)+(nA T D n+nB T D n)*(6*n*Λ+60)+nC T n*(6*n*E.length)+30*E.length:=by
 have hu:=Ak hw h;have key:db n (fB n Λ G T (λ_=>1))<=db n (λ_=>4*n*Λ+40)+(6*n*Λ+60)*nA T D n+(6*n*Λ+60)*nB T D n+(6*n*E.length)*nC T n+30*db n (λj=>if decide ((T.nd j).Oy=true\/(OV (T.nd j)=true/\G.O7 (T.nd j).Ow=some j))=true then cL (T.nd j) else 0):=by
  unfold nA nB nC;rw [<-je,<-je,<-je,<-je,<-fW,<-fW,<-fW,<-fW];refine gG n _ _ λj hj=>?_;have e1:ix n Λ 1=4*n*Λ+40:=by
   show 0+el n Λ 0=_;unfold el;rw [cB,iQ n]
  have e2:ix n Λ 2=(4*n*Λ+40)+(6*n*Λ+60):=by
   grind [ix,el,iQ]
  unfold fB;by_cases QW:T.up j=true
  ·rw [ay QW];unfold dM rr iZ;by_cases hc:OV (T.nd j)=true
   ·have hl:=(eV hc).1;rw [hl];simp only [hc,if_true,true_and,bk,if_false,false_or];rw [show (1:Nat)+1=2 from rfl,e2];by_cases hd:((T.nd j).Ow,j)∈D
    ·exact IZ
    ·exact IZ
   ·have hc':OV (T.nd j)=false:=by simpa using hc
    simp only [hc',bk,false_and,if_false,or_false];rw [eK,e1];by_cases hl:(T.nd j).Oy=true
    ·simp only [hl,if_true,decide_true];have hlen:=h.lg j hj;have hgap:∀k,pT (T.nd j) 1 k<=6*E.length:=λk=>by
      have:=(hw.ni j hj).next hl k;unfold pT;omega
     have hs:=ij n (6*E.length) (λk=>if k=(T.nd j).own then 0 else pT (T.nd j) 1 k) (λk _=>by
      show (if _ then 0 else _)<=_;split
      ·exact aH _
      ·exact hgap k)
     unfold rb;rw [<-Nat.mul_assoc,iQ n 6] at hs;omega
    ·grind
  ·rw [am QW];exact aH _
 rw [Kc] at key;rw [Nat.add_mul,iQ (nA T D n),iQ (nB T D n),iQ (nC T n)];have h30:30*db n (λj=>if decide ((T.nd j).Oy=true\/(OV (T.nd j)=true/\G.O7 (T.nd j).Ow=some j))=true then cL (T.nd j) else 0)<=30*E.length:=fi _ hu;omega
theorem NT (s:Nd ρ):rr s 1<=2:=by unfold rr;split<;>omega
theorem LM (x:Ms ρ):kR T (λ_=>1) x<=6:=by
 grind [kR,fY,qi,NT,bk,uN,rS,gC]
end
section
variable {ρ:Type} {z:ρ->Bool} {e:ρ} {s s':Nd ρ} {n i c a κ Λ k:Nat} {b b' t t' B B':Int} {x m:Ms ρ} {S T T':Cs ρ} {G G':Gh ρ} {q:List (Ms ρ)} {K K':Int->Lg ρ} {D D':List (Int×Nat)} {E:List Int} {l l' Lt Yl:Lg ρ} {r:List (Ms ρ)×Nd ρ} {st:Nat->Nat}
theorem NX:∀d,d<13->∀s,s<6->(d+(5+s))*((100 - 8*d)+(5+s))<=1200:=dZ
theorem NW:∀d,d<13->(d+18)*((100 - 8*d)+18)<=2124:=dZ
theorem NV:∀s,s<6->5*(20*(105 - 7*s)+40)+s*(30*(105 - 7*s)+60)+30*(100 - 8*s)<=19800:=dZ
theorem L5:nU T n<=n:=by
 have:=ij n 1 (λj=>if T.up j=true then 1 else 0) (λj _=>by show (if _ then 1 else 0)<=1;split<;>omega);unfold nU;omega
theorem Gp (h:S4 z n a T G D K E) (Pf:2<=n) (O8:n<=5) (ha:a<=100) (hq:T.q.length<=4*a):∃κ Λ,Cw z n a T G D K E (λ_=>1) κ Λ/\WW n Λ G T (λ_=>1)<=22200/\κ*Λ<=1200/\Λ<=97:=by
 have h1:=h.ab Pf;have h2:=h.pw.bc;have h3:=LB (T:=T) (n:=n) D;have h4:=NM (T:=T) (n:=n) 1 D;have h5:=L5 (T:=T) (n:=n);have h6:=h.ed;generalize hR:RR n T (λ_=>1)=R at *;have hΛ:E.length+R<=97:=az;refine ⟨D.length+R,E.length+R,⟨h.wk,h.pw,by rw [hR];exact ah _,by rw [hR];exact ah _⟩,?_,?_,hΛ⟩
 ·have hs:(T.q.map (kR T (λ_=>1))).sum<=T.q.length*6:=qB _ _ _ λx _=>LM x;have hn:=GK (Λ:=E.length+R) h.wk h.pw;have hW:WW n (E.length+R) G T (λ_=>1)=(T.q.map (kR T (λ_=>1))).sum+db n (fB n (E.length+R) G T (λ_=>1)):=rfl;rw [hW];have RX:=NV (nA T D n+nB T D n+nC T n) az;generalize hσ:nA T D n+nB T D n+nC T n=σ at *;have he:E.length<=100 - 8*σ:=az;have hL:E.length+R<=105 - 7*σ:=az;have a1:4*n*(E.length+R)<=20*(105 - 7*σ):=nF az hL;have a2:6*n*(E.length+R)<=30*(105 - 7*σ):=nF az hL;have a3:6*n*E.length<=30*(105 - 7*σ):=nF az az;have b1:n*(4*n*(E.length+R)+40)<=5*(20*(105 - 7*σ)+40):=nF O8 az;have b2:(nA T D n+nB T D n)*(6*n*(E.length+R)+60)<=(nA T D n+nB T D n)*(30*(105 - 7*σ)+60):=fi _ az;have b3:nC T n*(6*n*E.length)<=nC T n*(30*(105 - 7*σ)+60):=fi _ az;have b4:(nA T D n+nB T D n)*(30*(105 - 7*σ)+60)+nC T n*(30*(105 - 7*σ)+60)=σ*(30*(105 - 7*σ)+60):=by rw [<-Nat.add_mul,hσ]
  generalize σ*(30*(105 - 7*σ)+60)=c1 at *;generalize 5*(20*(105 - 7*σ)+40)=c2 at *;generalize (nA T D n+nB T D n)*(6*n*(E.length+R)+60)=c3 at *;generalize (nA T D n+nB T D n)*(30*(105 - 7*σ)+60)=c4 at *;generalize nC T n*(6*n*E.length)=c5 at *;generalize nC T n*(30*(105 - 7*σ)+60)=c6 at *;generalize n*(4*n*(E.length+R)+40)=c7 at *;omega
 ·refine aF ?_ (NX D.length az (nA T D n+nB T D n) az);exact nF az az
theorem Gn (h:S4 z n a T G D K E) (Pf:2<=n) (O8:n<=5) (ha:a<=100) (hU:2*nU T n<=n):∃κ Λ,Cw z n a T G D K E (λ_=>8) κ Λ/\κ*Λ<=2124:=by
 have h1:=h.ab Pf;have h4:=NL (T:=T) (n:=n) 8;generalize hR:RR n T (λ_=>8)=R at *;refine ⟨D.length+R,E.length+R,⟨h.wk,h.pw,by rw [hR];exact ah _,by rw [hR];exact ah _⟩,?_⟩;refine aF ?_ (NW D.length az);exact nF az az
theorem Cw.cnt (h:Cw z n b T G D K E st κ Λ) (hi:i<n):((T.nd i).cnt:Int)<=(κ*Λ:Nat)+2*b+1:=by
 obtain ⟨A,a1,a2,a3,a4⟩:=h.pw.pl i hi;have h1:=qL (T.nd i);have h2:=h.wk.tb i hi;exact My
theorem Cw.pl (h:Cw z n b T G D K E st κ Λ) (hi:i<n):pl (T.nd i)<=(κ*Λ:Nat):=by
 obtain ⟨A,a1,a2,a3,a4⟩:=h.pw.pl i hi;exact My
theorem Cw.lq (h:Cw z n b T G D K E st κ Λ) (hi:i<n):(T.nd i).Oz.length<=Λ:=by
 have:=h.pw.lg i hi;have:=h.re;omega
end
end Go.Proofs.YtnhefallmioefaaGreat.X
