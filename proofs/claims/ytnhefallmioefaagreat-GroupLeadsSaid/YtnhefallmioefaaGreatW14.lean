/- What the law leans on. No condition. -/
import Derived.Test.YtnhefallmioefaaGreatW0
import Derived.Test.YtnhefallmioefaaGreatW1
import Derived.Test.YtnhefallmioefaaGreatW13
set_option maxHeartbeats 8000000
set_option linter.unusedVariables false
set_option linter.unusedSimpArgs false
namespace Go.Proofs.YtnhefallmioefaaGreat
set_option maxRecDepth 20000
theorem X.AI.twice {ρ:Type} {z:ρ->Bool} {n a c:Nat} {T:X.Cs ρ} (h:X.AI z n a c T) {q:List (X.Ms ρ)} (hq:∀x∈q,x∈T.q) (hl:q.length<=T.q.length+1):X.AI z n (a+1) c (T.wq q) :=
 h.same ((h.wk.Yu hq).mono az) hq hl λ_ _=>⟨rfl,aP _⟩
section
variable {ρ:Type} {z:ρ->Bool} {e:ρ} {T:X.Cs ρ}
theorem X.WI (i:Nat):(T.QE i).lo=T.lo:=by unfold X.Cs.QE;split<;>rfl
end
section
variable {ρ:Type} {f:ρ->List UInt8} {z:ρ->Bool} {e:ρ} {n cl lv a c:Nat} {S:Mn} {T:X.Cs ρ} {b:Int}
theorem wT {k:Dk} (h:uH k) (x y:Int):dI (dI k x) y=dI k x:=by
 grind [oB,uH]
theorem Pq.wq (h:Pq f n S T) (q:List (X.Ms ρ)):Pq f n { S with q:=q.map (du f)} (T.wq q):=⟨rfl,h.bad,h.len,h.up,h.nd,h.dn⟩
theorem Pq.Qm (h:Pq f n S T) (hi:OO n cl lv S) (i:Nat) (O9:i<n) (keep:Int):Pq f n (S.Qm i keep) (T.down i):=by
 have hat:=λj=>Mn.at_set S i j ⟨(S.at i).s,dI (S.at i).k keep,false⟩ (by rw [h.len];exact O9);refine ⟨h.q,h.bad,by simp [Mn.Qm,Mn.set,h.len],λj hj=>?_,λj hj PU=>?_,λj hj PU=>?_⟩
 ·show ((S.set i _).at j).up=(if j=i then false else T.up j)
  rw [hat];split
  ·rfl
  ·exact h.up j hj
 ·have PU:(if j=i then false else T.up j)=true:=PU;split at PU
  ·cases PU
  ·rename_i e1;show Rel f ((S.set i _).at j).s ((S.set i _).at j).k (T.nd j);rw [hat,am e1];exact h.nd j hj PU
 ·have PU:(if j=i then false else T.up j)=false:=PU;show ∃k kp,((S.set i _).at j).k=dI k kp/\Rel f ((S.set i _).at j).s k (T.nd j)/\XI ((S.set i _).at j).s k;rw [hat];by_cases e1:j=i
  ·subst e1;rw [ay rfl];cases hu:T.up j with
   | true=>exact ⟨(S.at j).k,keep,rfl,h.nd j hj hu,(hi.up j hj ((h.up j hj).trans hu)).1⟩
   | false =>
    obtain ⟨k,kp,k1,k2,k3⟩:=h.dn j hj hu;exact ⟨k,kp,by show dI (S.at j).k keep=_;rw [k1,wT k2.UT],k2,k3⟩
  ·grind [h.dn]
theorem Pq.back (h:Pq f n S T) (hi:OO n cl lv S) (i:Nat) (O9:i<n):Pq f n (S.back n i) (T.QE i):=by
 unfold Mn.back X.Cs.QE;rw [h.up i O9];cases hu:T.up i with
 | true=>exact h
 | false =>
  obtain ⟨k,kp,k1,k2,k3⟩:=h.dn i O9 hu;have hb:=FK k2 k3 kp;rw [<-k1,(hi.sv.id i O9).1,(hi.sv.id i O9).2] at hb;have hat:=λj=>Mn.at_set S i j ⟨f9 i n (S.at i).s (S.at i).k,gb (S.at i).s (S.at i).k,true⟩ (by rw [h.len];exact O9);refine ⟨h.q,h.bad,by simp [Mn.set,h.len],λj hj=>?_,λj hj PU=>?_,λj hj PU=>?_⟩
  ·grind [h.up]
  ·grind [h.nd]
  ·grind [h.dn]
section
variable (hz:∀x,z x=(f x).isEmpty) (he:f e=[]) (hf:∀x,(f x).length<=300)
include hz
omit hz in
theorem Pq.none (h:Pq f n S T) (i:Nat) (O9:i<n):Pq f n (S.OH i []) T:=by
 unfold Mn.OH;rw [h.up i O9];cases hu:T.up i with
 | false=>exact h
 | true =>
  show Pq f n (S.set i ⟨(S.at i).s,(S.at i).k,true⟩) T;have hat:=λj=>Mn.at_set S i j ⟨(S.at i).s,(S.at i).k,true⟩ (by rw [h.len];exact O9);have hs:∀j,(S.set i ⟨(S.at i).s,(S.at i).k,true⟩).at j=S.at j:=λj=>by
   rw [hat];split
   ·rename_i e1;subst e1;have:=(h.up j O9).trans hu;generalize S.at j=N at *;obtain ⟨n1,n2,n3⟩:=N;have this:n3=true:=this;rw [this]
   ·rfl
  exact ⟨h.q,h.bad,by simp [Mn.set,h.len],λj hj=>by rw [hs];exact h.up j hj,λj hj hu=>by rw [hs];exact h.nd j hj hu,λj hj hu=>by rw [hs];exact h.dn j hj hu⟩
include he hf
end
end
def X.Cs.Uj {ρ:Type} (T:X.Cs ρ) (lo:X.Lg ρ):X.Cs ρ:=⟨T.nd,T.up,T.q,lo⟩
section
variable {ρ:Type} {f:ρ->List UInt8} {z:ρ->Bool} {e:ρ} {n cl lv a c:Nat} {S:Mn} {T:X.Cs ρ} {b:Int} {G:X.Gh ρ}
def X.tells (s:X.Nd ρ):X.Lg ρ:=s.Oz.take s.agreed
def X.QO (z:ρ->Bool) (T:X.Cs ρ):Nat->Nat->X.Lg ρ->X.Lg ρ
 | 0,_,lg=>lg
 | m+1,i,lg=>X.QO z T m (i+1) (if T.up i then (if (X.recs z lg).length<(X.recs z (X.tells (T.nd i))).length then X.tells (T.nd i) else lg) else lg)
theorem X.U7 {l l':X.Lg ρ} (h:l <+: l'):X.recs z l <+: X.recs z l':=by
 obtain ⟨t,rfl⟩:=h;unfold X.recs;rw [cz,cy];exact List.prefix_append _ _
theorem X.XH {i:Nat} {s:X.Nd ρ} (h:X.NI z n G i s):∃t,X.Ts n G t (X.tells s) (X.tells s).length:=by
 have hl:(X.tells s).length=s.agreed:=by unfold X.tells;rw [aQ];have:=h.ag.1;omega
 exact ⟨s.Ow,by rw [hl];exact h.ag.Oz (by rw [hl];exact ah _) (by unfold X.tells;rw [dv,tv])⟩
theorem X.agd_two {l l':X.Lg ρ} (hg:X.GI n G) (h1:∃t,X.Ts n G t l l.length) (h2:∃t,X.Ts n G t l' l'.length):l <+: l'\/l' <+: l:=by
 obtain ⟨t,h1⟩:=h1;obtain ⟨t',h2⟩:=h2;by_cases h:l.length<=l'.length
 ·have:=hg.cmp h1 h2 h;rw [bW] at this;exact .inl (by rw [this];exact kh _ _)
 ·have:=hg.cmp h2 h1 az;rw [bW] at this;exact .inr (by rw [this];exact kh _ _)
theorem vn (hz:∀x,z x=(f x).isEmpty) (l:X.Lg ρ):recs (l.map (sQ f))=(X.recs z l).map f:=qI hz l
end
namespace X
section
variable {ρ:Type} {z:ρ->Bool} {e:ρ} {n l Λ:Nat} {T:Cs ρ} {b M:Int} {G:Gh ρ}
theorem Np (hG:QS z n b G T) (hl:Ti M T l) (Pm:RO n λj=>T.up j):T.lo <+: (T.nd l).Oz:=by
 obtain ⟨t,h1,h2⟩:=hG.lo;have Pr:=hG.up l hl.up;obtain ⟨d1,d2⟩:=(hG.ni l Pr).UC hl.Oy;rw [hl.Ow] at d1 d2;rcases h2 with g | ⟨u,k,k1,k2,k3,k4⟩
 ·grind
 ·obtain ⟨p,p1,p2⟩:=k1.q;obtain ⟨j,j1,j2,j3⟩:=p1.meet Pm;have hu:=((hG.ni j j1).Rt u k (p2 j j1 j2)).1;have hjM:(T.nd j).Ow=M:=by
   grind [hl.Ow,hl.XU]
  have h3:=hG.gi.later k1 (t':=M) az (by rw [d1];simp);rw [bW] at k4;rw [k4,d2];have h4:(G.L u).take T.lo.length=(G.L M).take T.lo.length:=(iz h3 k3).symm;rw [h4];exact kh _ _
theorem Sd.told (h:Sd z n b M Λ l T) {j:Nat} (hj:T.up j=true):tells (T.nd j)=(T.nd l).Oz:=by
 have hl:=h.sb.lead;obtain ⟨G,hG⟩:=h.sb.wk;have hjM:(T.nd j).Ow<=(T.nd l).Ow:=by
  grind [hl.XU,hl.Ow]
 have h1:=(vj hG hl.up hj hl.Oy hjM).2;unfold tells;rw [h1,h.ag j hj,bW]
theorem Ti.one (h:Ti M T l) {j:Nat} (hj:T.up j=true) (hl:(T.nd j).Oy=true):j=l:=by
 apply bz;intro hne;rw [(h.XU j hj hne).2.2] at hl;cases hl
end
end X
namespace X
section
variable {ρ:Type} {z:ρ->Bool} {e:ρ} {n:Nat}
def Gh.none_:Gh ρ:={ O7:=λ_=>none,C:=λ_=>[],L:=λ_=>[],Qx:=λ_ _ _=>False,V:=λ_ _=>none }
theorem H8:GI n (Gh.none_:Gh ρ) :=
 ⟨λt i h=>kD,λt i h=>kD,λt i h=>kD,λt h=>absurd rfl h,λ_=>.inr rfl,λ_ _=>rfl,λ_=>SF.nil,λ_ _ _ _ _ h=>kD,λ_ _ _ _ _ h=>kD,λ_ _ _ _ _ _ h=>kD,λ_ _ _ h=>h.elim,λ_ _ _ _ h=>h.elim,λ_ _ _ _ _ _ h=>h.elim⟩
theorem Kn {i:Nat} (hi:i<n):NI z n (Gh.none_:Gh ρ) i (X.new i n) :=
 ⟨hi,rfl,rfl,jw,jw,aP _,SF.nil,aP _,λ_ _=>rfl,.inl ⟨rfl,rfl⟩,λ_ h=>kD,λh=>kD,λ_ _ h=>kD,λh=>(by exfalso;have h:(-1:Int)=(i:Int):=h;omega),λh=>kD,λh=>kD,⟨aH _,.inl rfl⟩,λ_ _ h=>h.elim,rfl,rfl⟩
def Cs.UA (n:Nat):Cs ρ:=⟨λi=>X.new i n,λi=>decide (i<n),[],[]⟩
theorem CR:Wk z n 0 (Cs.UA n:Cs ρ) :=
 ⟨Gh.none_,H8,λ_ hi=>Kn hi,λi _=>LN.new i n,λ_ hm=>(by cases hm),λi hi=>(by simpa [Cs.UA] using hi),λ_ _=>aP _,0,aH _,.inl rfl⟩
theorem Lz:AI z n 0 0 (Cs.UA n:Cs ρ) :=
 ⟨CR,ah _,ah _,λ_ _=>ah _,λ_ hm=>(by cases hm),λ_ hm=>(by cases hm),λ_ _=>aP _⟩
end
end X
abbrev Rec:={ l:List UInt8 // l.length<=300 }
def cD (x:Rec):List UInt8:=x.1
def bG (x:Rec):Bool:=x.1.isEmpty
def cU:Rec:=⟨[],aH _⟩
theorem jj:∀x,bG x=(cD x).isEmpty:=λ_=>rfl
theorem mE:∀x,(cD x).length<=300:=λx=>x.2
theorem xO (l:List UInt8) (h:l≠[]) (hl:l.length<=300):∃x,cD x=l/\bG x=false:=⟨⟨l,hl⟩,rfl,by
 cases l with
 | nil=>exact absurd rfl h
 | cons a l=>rfl⟩
theorem GL (n:Nat):Pq cD n (Mn.begun n) (X.Cs.UA n):=by
 refine ⟨rfl,rfl,by simp [Mn.begun],λi hi=>?_,λi hi _=>?_,λi hi hu=>?_⟩
 ·rw [ic n i hi];show true=decide (i<n);rw [aO hi]
 ·rw [ic n i hi];exact MD
 ·have hu:decide (i<n)=false:=hu;rw [aO hi] at hu;cases hu
structure Lo (n a:Nat) (S:Mn) (T:X.Cs Rec):Prop where
 rel:Pq cD n S T
 long:S.long=(X.recs bG T.lo).map cD
 ai:∃c,X.AI bG n a c T
theorem X.AI.Uj {ρ:Type} {z:ρ->Bool} {n a c:Nat} {T:X.Cs ρ} {lo:X.Lg ρ} (h:X.AI z n a c T) (hw:X.Wk z n a (T.Uj lo)):X.AI z n a c (T.Uj lo) :=
 ⟨hw,h.ql,h.ca,h.lg,h.ms,h.b20,h.pl⟩
theorem Lo.start (n:Nat):Lo n 0 (Mn.begun n) (X.Cs.UA n):=⟨GL n,rfl,0,X.Lz⟩
namespace X
section
variable {ρ:Type} {z:ρ->Bool} {e:ρ} {n F i:Nat} {T:Cs ρ}
theorem yO (h:T.up i=false) (m:Ms ρ):(T.bring z e m).nd i=T.nd i:=by
 grind [Cs.bring,bf]
theorem B2 (h:T.up i=false) (j:Nat):(T.tick z e j).nd i=T.nd i:=by
 grind [Cs.tick,bf]
theorem yM (h:T.up i=false) (k:Nat):(T.Ox z e k).nd i=T.nd i:=by
 grind [tick,Cs.Ox,dp,B2,dL]
theorem yN (k:Nat):∀T:Cs ρ,T.up i=false->(Cs.drain z e k T).nd i=T.nd i/\(Cs.drain z e k T).up=T.up:=by
 induction k with
 | zero=>exact λ_ _=>⟨rfl,rfl⟩
 | succ k ih =>
  intro T h;cases hq:T.q with
  | nil=>rw [eO _ hq];exact ⟨rfl,rfl⟩
  | cons m q =>
   rw [fo k hq];have hu:((T.wq q).bring z e m).up=T.up:=jq _ _;obtain ⟨h1,h2⟩:=ih ((T.wq q).bring z e m) (by rw [hu];exact h);have h3:((T.wq q).bring z e m).nd i=T.nd i:=yO (T:=T.wq q) h m;exact ⟨h1.trans h3,h2.trans hu⟩
theorem ti (h:T.up i=false) (k:Nat):(T.OG z e n F k).nd i=T.nd i/\(T.OG z e n F k).up i=false:=by
 induction k with
 | zero=>exact ⟨rfl,h⟩
 | succ k ih =>
  have hu:((T.OG z e n F k).Ox z e n).up i=false:=by rw [(dL (z:=z) (e:=e) n _).2.1];exact ih.2
  obtain ⟨h1,h2⟩:=yN (z:=z) (e:=e) F ((T.OG z e n F k).Ox z e n) hu;refine ⟨h1.trans ((yM ih.2 n).trans ih.1),?_⟩;show (Cs.drain z e F ((T.OG z e n F k).Ox z e n)).up i=false;rw [h2];exact hu
end
end X
theorem Ds (l:X.Lg Rec) (M:Int) (x:Rec) (hx:bG x=false):X.recs bG (l++[(M,x)])=X.recs bG l++[x]:=by
 unfold X.recs;rw [cz,cy];congr 1;rw [fA,ay (by rw [hx];rfl)];rfl
theorem Ez {n:Nat} {S:Mn} {T:X.Cs Rec} {M:Int} {l:Nat} (h:Pq cD n S T) (hl:X.Ti M T l) {j:Nat} (hj:j<n) (hu:(S.at j).up=true):(S.at j).s.Oy=true↔j=l:=by
 rw [h.up j hj] at hu;rw [(h.nd j hj hu).u.Oy];constructor
 ·exact hl.one hu
 ·intro e;rw [e];exact hl.Oy
end Go.Proofs.YtnhefallmioefaaGreat
