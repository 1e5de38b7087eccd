/-
  What the proof of the law leans on: contracts of the program's functions, one behind another. No condition.
-/
import Derived.Test.YtnicaicjgaoolaaU0
import Derived.Test.YtnicaicjgaoolaaPRepLeadsL12
import Derived.Test.YtnicaicjgaoolaaU30
import Derived.Test.YtnicaicjgaoolaaU3
set_option linter.unusedVariables false
set_option linter.unusedSimpArgs false
namespace Go.Proofs.Ytnicaicjgaoolaa
set_option maxRecDepth 20000
namespace X
section
variable {ρ:Type} {z:ρ->Bool} {e:ρ} {n F i:Nat} {T:Cs ρ}
theorem tX (h:T.up i=false) (m:Ms ρ):(T.bring z e m).nd i=T.nd i:=by
 grind [Cs.bring,bi]
theorem wO (h:T.up i=false) (j:Nat):(T.tick z e j).nd i=T.nd i:=by
 grind [Cs.tick,bi]
theorem tV (h:T.up i=false) (k:Nat):(T.ticks z e k).nd i=T.nd i:=by
 grind [tick,Cs.ticks,cE,cZ,wO,dm]
theorem tW (k:Nat):∀T:Cs ρ,T.up i=false->(Cs.drain z e k T).nd i=T.nd i/\(Cs.drain z e k T).up=T.up:=by
 induction k with
 | zero=>exact λ_ _=>⟨rfl,rfl⟩
 | succ k ih =>
  intro T h;cases hq:T.q with
  | nil=>rw [eG _ hq];exact ⟨rfl,rfl⟩
  | cons m q =>
   rw [eO k hq];have hu:((T.wq q).bring z e m).up=T.up:=ie _ _;obtain ⟨h1,h2⟩:=ih ((T.wq q).bring z e m) (by rw [hu];exact h);have h3:((T.wq q).bring z e m).nd i=T.nd i:=tX (T:=T.wq q) h m;exact ⟨h1.trans h3,h2.trans hu⟩
theorem ph (h:T.up i=false) (k:Nat):(T.rnds z e n F k).nd i=T.nd i/\(T.rnds z e n F k).up i=false:=by
 induction k with
 | zero=>exact ⟨rfl,h⟩
 | succ k ih =>
  have hu:((T.rnds z e n F k).ticks z e n).up i=false:=by rw [(dm (z:=z) (e:=e) n _).2.1];exact ih.2
  obtain ⟨h1,h2⟩:=tW (z:=z) (e:=e) F ((T.rnds z e n F k).ticks z e n) hu;refine ⟨h1.trans ((tV ih.2 n).trans ih.1),?_⟩;show (Cs.drain z e F ((T.rnds z e n F k).ticks z e n)).up i=false;rw [h2];exact hu
end
end X
structure Six (n:Nat) (S S':Mn) (T T':X.Cs Rec) (M:Int) (l:Nat):Prop where
 calm:(Mn.calm n 60 { S with q:=[]})=(true,S')
 rel:CRel d9 n S' T'
 sd:X.Sd eV n 150 M 120 l T'
 up:T'.up=T.up
 long:S'.long=(X.recs eV T'.lo).map d9
 wn:∀j,T'.up j=true->X.Wn 2541 (T'.nd l).log (T'.nd j)
 dn:∀j,j<n->T'.up j=false->(T'.nd j).cnt<=1700
theorem Lo.sixty {n a cl lv:Nat} {S:Mn} {T:X.Cs Rec} (h:Lo n a S T) (hi:BInv n cl lv S) (ha:a<=90) (hn:n<=5) (hup:∃i,i<n/\T.up i=true) (hmaj:X.Maj n λj=>T.up j):∃S' T' M l,Six n S S' T T' M l:=by
 obtain ⟨h1,ok,hpl⟩:=h.ok ha hup;obtain ⟨M,l,s1,s2,s3⟩:=X.yD (e:=jG) (F:=4000) ok hn hmaj (by omega) (by omega);have hu:∀j,(T.wq []).up j=T.up j:=λ_=>rfl;have hw:∀j,T.up j=true->X.Wn 2541 (((T.wq []).rnds eV jG n 4000 60).nd l).log (((T.wq []).rnds eV jG n 4000 60).nd j):=λj hj=>by
  have hjn:j<n:=by obtain ⟨G,hG⟩:=ok.wk;exact hG.up j hj
  have h5:=hpl j hjn;refine (s3 j hj).more ?_;show X.pl (T.nd j)+1121<=2541;omega
 have hdn:∀j,j<n->T.up j=false->(((T.wq []).rnds eV jG n 4000 60).nd j).cnt<=1700:=λj hj hju=>by
  rw [(X.ph (z:=eV) (e:=jG) (n:=n) (F:=4000) (T:=T.wq []) hju 60).1];obtain ⟨c,hc⟩:=h.ai;have:=hc.cnt ha hj;show (T.nd j).cnt<=1700;omega
 have hcnt:∀j,j<n->(((T.wq []).rnds eV jG n 4000 60).nd j).cnt<=2990:=λj hj=>by
  cases hju:T.up j with
  | false=>have:=hdn j hj hju;omega
  | true =>
   have h5:=(hw j hju).cnt;have h6:=s1.sb.log l s1.sb.lead.up;obtain ⟨G,hG⟩:=s1.sb.wk;have h7:=hG.tb j hj;omega
 have hc:=h1.calm (z:=eV) (e:=jG) (b:=150) mx rfl pN hn (by omega) 60 (hi.ofq (q:=[]) (λx hx=>by cases hx) (aA _)) (λj hj=>by
  obtain ⟨o1,_⟩:=ok.rnds (e:=jG) (F:=4000) hn j (by omega) (by omega);obtain ⟨o2,_⟩:=ok.rnds (e:=jG) (F:=4000) hn (j+1) (by omega) (by omega);obtain ⟨M',r1,_⟩:=o1.rnd (e:=jG) (F:=4000) hn (by omega) (by omega);exact ⟨o1.wk.mono (by omega),λk=>by have:=r1.small k;omega,o2.q⟩) hcnt
 refine ⟨(Mn.calm n 60 { S with q:=[]}).2,_,M,l,by rw [<-hc.1],hc.2,?_,s2,?_,λj hj=>hw j (by rw [s2] at hj;exact hj),λj hj hju=>hdn j hj (by rw [s2] at hju;exact hju)⟩
 ·grind
 ·rw [(pj _ _).1,X.lo_rnds];exact h.long
theorem X.Sd.wlo {ρ:Type} {z:ρ->Bool} {n Λ l:Nat} {b M:Int} {T:X.Cs ρ} {lo:X.Lg ρ} (h:X.Sd z n b M Λ l T) (hw:X.Wk z n b (T.wlo lo)):X.Sd z n b M Λ l (T.wlo lo) :=
 ⟨⟨hw,⟨h.sb.lead.up,h.sb.lead.leads,h.sb.lead.term,h.sb.lead.oth⟩,h.sb.q,h.sb.ql,h.sb.log⟩,h.q,h.mat,h.ag⟩
theorem Six.look {n:Nat} {S S':Mn} {T T':X.Cs Rec} {M:Int} {l:Nat} (h:Six n S S' T T' M l):(S'.look n).1=true/\∃T2,CRel d9 n (S'.look n).2 T2/\X.Sd eV n 150 M 120 l T2/\T2.up=T.up/\(S'.look n).2.long=(X.recs eV T2.lo).map d9/\(∀j,T2.up j=true->X.Wn 2541 (T2.nd l).log (T2.nd j))/\∀j,j<n->T2.up j=false->(T2.nd j).cnt<=1700:=by
 obtain ⟨lo,g1,g2,g3,g4⟩:=h.rel.look mx h.long h.sd.sb.wk;exact ⟨g1,T'.wlo lo,g2,h.sd.wlo g4,h.up,g3,h.wn,h.dn⟩
theorem CE {n cl lv:Nat} {S:Mn} {T:X.Cs Rec} {M:Int} {l:Nat} (h:CRel d9 n S T) (hi:BInv n cl lv S) (hs:X.Sd eV n 150 M 120 l T) (hn:n<=5) (hmaj:X.Maj n λj=>T.up j) (hw:∀j,T.up j=true->X.Wn 2541 (T.nd l).log (T.nd j)) (hdn:∀j,j<n->T.up j=false->(T.nd j).cnt<=1700) (x:Rec) (hx:eV x=false)
  (hi2:∀S1:Mn,S1=((S.set l ⟨(bJ (S.at l).s (S.at l).k (d9 x)).2.2.1,(bJ (S.at l).s (S.at l).k (d9 x)).2.2.2,true⟩).send (bJ (S.at l).s (S.at l).k (d9 x)).1)->∃cl lv,BInv n cl lv S1) :
  (bJ (S.at l).s (S.at l).k (d9 x)).2.1=0/\∃S2 T2,Mn.calm n 10 ((S.set l ⟨(bJ (S.at l).s (S.at l).k (d9 x)).2.2.1,(bJ (S.at l).s (S.at l).k (d9 x)).2.2.2,true⟩).send (bJ (S.at l).s (S.at l).k (d9 x)).1)=(true,S2)/\CRel d9 n S2 T2/\X.Sd eV n 160 M 121 l T2/\T2.up=T.up/\T2.lo=T.lo/\S2.long=S.long/\(T2.nd l).log=(T.nd l).log++[(M,x)]:=by
 have hl:=hs.sb.lead;have hln:l<n:=by obtain ⟨G,hG⟩:=hs.sb.wk;exact hG.up l hl.up
 have cn:∀{Λ:Nat} {b:Int} {U:X.Cs Rec} (hb:b<=160) (hΛ:Λ<=121),X.Sb eV n b M Λ l U->∀j,j<n->X.Wn 2541 (U.nd l).log (U.nd j)->(U.nd j).cnt<=2990:=λhb hΛ hu j hj hwj=>by
  have h5:=hwj.cnt;have h6:=hu.log l hu.lead.up;obtain ⟨G,hG⟩:=hu.wk;have h7:=hG.tb j hj;omega
 obtain ⟨g1,g2,g3⟩:=hs.give hn (by omega) x;obtain ⟨er,e1,e2,e3⟩:=ng mx (h.nd l hln hl.up) (by have:=cn (by omega) (by omega) hs.sb l hln (hw l hl.up);omega) x (pN x) hx;have her:er=0:=e2.2 g1;have hq4:=g2.ql;have ht:=h.turn l hln hl.up (p:=((bJ (S.at l).s (S.at l).k (d9 x)).1,(bJ (S.at l).s (S.at l).k (d9 x)).2.2.1,(bJ (S.at l).s (S.at l).k (d9 x)).2.2.2)) (q:=((X.submit eV (T.nd l) x).1,(X.submit eV (T.nd l) x).2.2)) ⟨by simp only;rw [e1],e3⟩ (by omega);refine ⟨by rw [e1];exact her,?_⟩;obtain ⟨cl2,lv2,hi3⟩:=hi2 _ rfl;obtain ⟨S',q0,q1,q2,q3⟩:=X.given (e:=jG) (F:=4000) hs hn hmaj (by omega) (by omega) (by omega) x;have hsb:=X.yG (e:=jG) (F:=4000) g2 hn hmaj (by omega) l hl.up (B:=X.pl ((T.call l ((X.submit eV (T.nd l) x).1,(X.submit eV (T.nd l) x).2.2)).nd l)) X.Wn.start;have hgp:=λj (hj:T.up j=true)=>X.zW (e:=jG) (F:=4000) hs hn hmaj (by omega) (by omega) (by omega) x j hj (hw j hj);have hc:=ht.calm (z:=eV) (e:=jG) (b:=160) mx rfl pN hn (by omega) 10 hi3 (λj hj=>by
  obtain ⟨a1,a2,_⟩:=hsb j (by omega);have r:=X.iG (e:=jG) (F:=4000) a1 hn (by omega) (by rw [a2];exact hmaj) (by omega);exact ⟨a1.wk.mono (by omega),λk=>by have:=r.small k;omega,r.q⟩) (λj hj=>by
  cases hju:T.up j with
  | false =>
   rw [(X.ph (z:=eV) (e:=jG) (n:=n) (F:=4000) (T:=T.call l ((X.submit eV (T.nd l) x).1,(X.submit eV (T.nd l) x).2.2)) hju 10).1,X.bi,aw (λe1=>by rw [e1,hl.up] at hju;cases hju)];have:=hdn j hj hju;omega
  | true =>
   have a1:=(hsb 10 (by omega)).1;exact cn (by omega) (by omega) a1 j hj (hgp j hju 10 (ah _)))
 refine ⟨_,_,Prod.ext hc.1 rfl,hc.2,?_,?_,?_,?_,?_⟩
 ·grind
 ·rw [<-q0];exact q2
 ·rw [X.lo_rnds];rfl
 ·rw [(pj _ _).1];rfl
 ·rw [<-q0];exact q3
theorem yM (l:X.Lg Rec) (M:Int) (x:Rec) (hx:eV x=false):X.recs eV (l++[(M,x)])=X.recs eV l++[x]:=by
 unfold X.recs;rw [cC,bW];congr 1;rw [fw,ax (by rw [hx];rfl)];rfl
theorem C8 {n:Nat} {S:Mn} {T:X.Cs Rec} {M:Int} {l Λ:Nat} {b:Int} {lg:X.Lg Rec} (h:CRel d9 n S T) (hs:X.Sd eV n b M Λ l T) (hL:S.long=(X.recs eV T.lo).map d9) (hmaj:X.Maj n λj=>T.up j) (x:Rec) (hx:eV x=false) (hlg:(T.nd l).log=lg++[(M,x)]) :
  (S.look n).1=true/\∀j,j<n->(((S.look n).2.at j).up=true->dx ((S.look n).2.at j).s=((X.recs eV lg).map d9)++[d9 x]/\(dx ((S.look n).2.at j).s).length=(S.look n).2.long.length/\((S.look n).2.at j).s.done=false):=by
 obtain ⟨G,hG⟩:=hs.sb.wk;obtain ⟨h1,h2⟩:=zo mx h hG n 0 T.lo (by omega) hG.lo;rw [<-hL] at h1;refine ⟨by unfold Mn.look;rw [h1,h.bad];rfl,λj hj hu=>?_⟩;have hat:(S.look n).2.at j=S.at j:=rfl;have hlong:(S.look n).2.long=(X.recs eV (X.lookF eV T n 0 T.lo)).map d9:=by unfold Mn.look;rw [h1]
 rw [hat] at hu ⊢;rw [h.up j hj] at hu;have hr:=h.nd j hj hu;have ht:dx (S.at j).s=(X.recs eV (T.nd l).log).map d9:=by
  rw [<-hs.told hu];unfold dx X.tells;rw [hr.u.log,hr.u.agreed,<-ju,qR mx]
 refine ⟨by rw [ht,hlg,yM lg M x hx,bW];rfl,?_,hr.u.done⟩;rw [ht,hlong,aQ,aQ,hs.look_len hmaj]
theorem Cw {n:Nat} {S:Mn} {T:X.Cs Rec} {M:Int} {l:Nat} (h:CRel d9 n S T) (hl:X.Lead M T l) {j:Nat} (hj:j<n) (hu:(S.at j).up=true):(S.at j).s.leads=true↔j=l:=by
 rw [h.up j hj] at hu;rw [(h.nd j hj hu).u.leads];constructor
 ·exact hl.one hu
 ·intro e;rw [e];exact hl.leads
def mF (n:Nat) (S:Mn) (l:List Ac):Mn:=l.foldl (λS a=>((S.act n a).look n).2) S
theorem Lo.run {n:Nat} (hn:n<=5) (l:List Ac):∀{a cl lv:Nat} {S:Mn} {T:X.Cs Rec},Lo n a S T->BInv n cl lv S->a+l.length<=90->(∀A∈l,A.B.length<=300)->∃T',Lo n (a+l.length) (mF n S l) T'/\BInv n (cl+l.length) (lv+l.length) (mF n S l):=by
 induction l with
 | nil=>intro a cl lv S T h hi _ _;exact ⟨T,h,hi⟩
 | cons A l ih =>
  intro a cl lv S T h hi hl hA;rw [aX] at hl;obtain ⟨_,T',h2⟩:=h.step hi (by omega) hn A (hA A aP);obtain ⟨T2,h3,h4⟩:=ih h2 (hi.act A).look (by omega) λB hB=>hA B (aI _ hB);refine ⟨T2,?_,?_⟩
  ·rw [aX,show a+(l.length+1)=a+1+l.length by omega];exact h3
  ·rw [aX,show cl+(l.length+1)=cl+1+l.length by omega,show lv+(l.length+1)=lv+1+l.length by omega];exact h4
theorem C1 {n:Nat} {S:Mn} {T:X.Cs Rec} (h:CRel d9 n S T) (hm:n<2*((List.range n).filter λj=>(S.at j).up).length):X.Maj n (λj=>T.up j)/\∃i,i<n/\T.up i=true:=by
 have e1:(List.range n).filter (λj=>(S.at j).up)=(List.range n).filter λj=>T.up j:=List.filter_congr λj hj=>h.up j (cX.1 hj);rw [e1] at hm;refine ⟨hm,?_⟩;obtain ⟨j,hj⟩:=List.exists_mem_of_length_pos (l:=(List.range n).filter λj=>T.up j) (by omega);obtain ⟨h1,h2⟩:=oe.1 hj;exact ⟨j,cX.1 h1,h2⟩
theorem BInv.given {n cl lv i:Nat} {S:Mn} (h:BInv n cl lv S) (hi:i<n) (hu:(S.at i).up=true) (rec:List UInt8):BInv n cl (lv+1) ((S.set i ⟨(bJ (S.at i).s (S.at i).k rec).2.2.1,(bJ (S.at i).s (S.at i).k rec).2.2.2,true⟩).send (bJ (S.at i).s (S.at i).k rec).1):=by
 have h1:=h.submit i hi rec;unfold Mn.submit at h1;rw [ax hu] at h1;simp only at h1;split at h1
 ·exact ⟨⟨h1.sv.nl,h1.sv.id,h1.sv.wf,h1.sv.q,h1.sv.ql⟩,h1.n1,h1.n5,h1.up,h1.dn,h1.liv,by have:=h.gn;show S.gn<=_;omega⟩
 ·exact h1
open Go.RowKit Go.ChangeMaps Go.WideMaps Go.Maps
section
variable {w wr w2:World} {A Y Z:List Nat} {c n cl lv:Nat} {S:Mn} {rs ds ls:Nat->Nat} {Xs:Nat->List Nat} {vr vd:Value} {gu:Nat} {qv gv lgv:Value}
theorem SyC.noq (h:SyC w A Y c n S rs ds ls Xs vr vd gu qv gv lgv) (hz:∀b,b∈Z↔b∈Y\/∃i,i<n/\b∈Xs i):SyP w (w.setCell ⟨c,3,none⟩ (.slice none 0 0)) A Z c n { S with q:=[]} :=
 h.setq hz ⟨A,Y,.inl ⟨rfl,rfl⟩,Mv.refl _ _ _,h.alt,h.yA,λb hb=>.inl hb,[],Only.refl _ _,λb hb=>by cases hb⟩
theorem BF (h:SyC w A Y c n S rs ds ls Xs vr vd gu qv gv lgv) (hz:∀b,b∈Z↔b∈Y\/∃i,i<n/\b∈Xs i) (hi:BInv n cl lv S) (i:Nat) (hin:i<n) (hu:(S.at i).up=true) (hd:(S.at i).s.done=false) :
  Calls Try.prog 18 #[.pointer (some ⟨rs i,0,none⟩)] w λe w'=>e = .returned (.bool false)/\SyP w w' A Z c n S/\Only [rs i] w w':=by
 have hn:=(h.node i hin).up hu;have h1:=hi.up i hin hu;have hdm:ew (S.at i).s (S.at i).k=false:=by
  unfold ew;rw [h1.1.off,h1.2,hd];simp
 have he:aY (S.at i).s (S.at i).k=(S.at i).s:=by unfold aY;rw [hdm,<-hd]
 refine (iV hn).mono ?_;rintro e w2 ⟨rfl,hn2,ho⟩;rw [he] at hn2;rw [hdm];refine ⟨rfl,?_,ho⟩;have hm:Mv A A (Xs i) (Xs i) w w2:=Mv.only ho (λb hb=>by rw [aj.1 hb];exact hn.rX);obtain ⟨Z',hz',hmz⟩:=j6 (Y:=Y) hin hz hm;have hs:=h.call (nd:=⟨(S.at i).s,(S.at i).k,true⟩) hin hm ⟨λ_=>hn2,(λe=>by cases e),hn2.xA⟩ hu.symm hn2.alt;rw [qJ hi i hin hu] at hs;exact ⟨A,Z',⟨Y,rs,ds,ls,gH Xs i (Xs i),vr,vd,gu,qv,gv,lgv,hs,hz'⟩,hmz⟩
theorem IsB.z {ao:Option Addr} {q cp:Nat} {R:List UInt8} (h2:IsB w ao q cp R) (h3:q<=cp) (hA:∀b∈A,w.heap.size<=b) (hb:Below w.heap.size w wr):ImmZ wr A (.slice ao q cp) R:=by
 obtain rfl:q=R.length:=h2.1.symm;by_cases h0:R.length=0
 ·exact .inl h0
 ·refine .inr ⟨ao,cp,rfl,h2.below hb,h3,λp hp=>?_⟩;obtain ⟨k1,k2,k3⟩:=h2;rcases k3 with k3 | ⟨b',off',e,k4⟩
  ·omega
  ·rw [e] at hp;cases hp;have h9:=World.block_lt_of_cell? w _ (k4 0 (by omega));have h9:b'<w.heap.size:=h9;exact ⟨λhm=>by have:=hA _ hm;show False;simp only at this;omega,aH h9 hb.size⟩
theorem OwnL.at_ {base:Nat} {v:Value} {l:List (List UInt8)} (h:OwnL w base v l) (j:Nat) (hj:j<l.length):∃g c,v = .slice (some ⟨g,0,none⟩) l.length c/\base<=g/\∃a k,w.cell? ⟨g,j,none⟩=some (.slice a (l.getD j []).length k)/\IsB w a (l.getD j []).length k (l.getD j [])/\∀p,a=some p->base<=p.block:=by
 obtain ⟨vs,h1,⟨h9,h5⟩,h3,h4⟩:=h;rcases h5 with ⟨rfl,h6⟩ | ⟨g,cap,cur,rfl,hg,hh,hn,hm,hs,ht⟩
 ·omega
 ·obtain ⟨a,c,k1,k2⟩:=(h4 j hj).isB;have h7:(cur.toList.take (l.length*1))[j]? = vs[j]? := by rw [ht]
  rw [bP,ax (by omega)] at h7;have h8:j<vs.length:=by omega
  refine ⟨g,cap,rfl,hg,a,c,?_,k2,λp hp=>?_⟩
  ·rw [<-k1];simp only [World.cell?,hh];rw [cA] at h7;rw [h7];simp [h8]
  ·have h10:=h4 j hj;rw [k1,hp] at h10;exact (je h10 (by simp [Value.ownBlock])).1
end
def qz (S:Mn) (q:Nat):Nat:=((List.range q).filter λj=>(S.at j).up).length
theorem yk (S:Mn) (q:Nat):qz S (q+1)=if (S.at q).up then qz S q+1 else qz S q:=by
 unfold qz;rw [cE,cC,ay];by_cases h:(S.at q).up=true
 ·rw [ax h];simp [h]
 ·rw [aw h];simp [h]
theorem yl (S:Mn) (q:Nat):qz S q<=q:=by
 have:=cR (λj=>(S.at j).up) (List.range q);rw [List.length_range] at this;exact this
theorem vC (n:Nat) (S:Mn) (l:List Ac) (j:Nat) (hj:j<l.length):mF n S (l.take (j+1))=(((mF n S (l.take j)).act n (l.getD j qp)).look n).2:=by
 have hg:l.getD j qp=l[j]:=by simp [List.getD,hj]
 rw [hg,<-bF hj];unfold mF;rw [cZ];rfl
set_option maxHeartbeats 16000000 in
theorem tG (n:Int) (ao:Option Addr) (m cp:Nat) (l:List Ac) (ro:Option Addr) (rn rc:Nat) (rec:List UInt8) (w:World) (hn0:(Lit.int .i64 n).wf=true) (h:IsAx w ao m l) (hle:m<=cp) (hm:m<=140737488355328) (hr:IsB w ro rn rc rec) (hrm:rn<=140737488355328) (hrc:rn<=rc) :
  Calls Try.prog 4 #[.int .i64 n,.slice ao m cp,.slice ro rn rc] w λe w'=>e = .returned (.bool true)/\Below w.heap.size w w':=by
 have hn:=tE hn0;clear hn0;have HX:=ab h;have HLEN:=ab h.len;have HRB:=ab hr;have HRL:Hid (rn=rec.length):=ab hr.1.symm;clear hr;go_enter Try.func4,Try.ntmps4
 go_wp2_with fail
 refine wU.mono ?_;rintro e w1 ⟨rfl,hb1⟩;have HB1:=ab hb1;have HX1:=ab (h.below hb1);clear hb1 h;by_cases hn1:n<1
 ·go_wp2_with fail
  go_ret
  exact ⟨rfl,HB1.out⟩
 by_cases hn5:5<n
 ·go_wp2_with fail
  go_ret
  exact ⟨rfl,HB1.out⟩
 obtain ⟨k,rfl⟩:∃k:Nat,n=(k:Int):=⟨n.toNat,by omega⟩
 have hk1:1<=k:=by omega
 have hk5:k<=5:=by omega
 go_wp2_with fail
 refine (wo ao m cp l HX1.out hm 90 (by omega)).mono ?_;rintro e w2 ⟨rfl,hb2⟩;have HB2:Hid (Below w.heap.size w w2):=ab (HB1.out.trans (hb2.mono HB1.out.size));clear hb2;cases hl:iu l 90 with
 | false =>
  go_wp2_with fail
  go_ret
  exact ⟨rfl,HB2.out⟩
 | true =>
  have HLT:=ab (rv l 90 hl);have hm90:m<=90:=by have:=HLT.out.1;have:=HLEN.out;omega
  clear hl;by_cases hl1:(rn:Int)<1
  ·go_wp2_with fail
   go_ret
   exact ⟨rfl,HB2.out⟩
  by_cases hl3:300<(rn:Int)
  ·go_wp2_with fail
   go_ret
   exact ⟨rfl,HB2.out⟩
  have HRX:Hid (∃x,d9 x=rec/\eV x=false):=ab (yN rec (λe=>by have:=HRL.out;rw [e] at this;simp at this;omega) (by have:=HRL.out;omega));go_wp2_with fail
  refine (pn (A:=[]) k hk5 (λb hb=>by cases hb)).mono ?_;rintro e w3 ⟨c,A3,Z3,rfl,hs3,hm3⟩;have HL3:Hid (Ls w w3 c k (Mn.begun k) []):=ab (LsA.begun (A2:=[]) HB2.out hs3 hm3).ls;have HBI:=ab (nY k hk1 hk5);have HRUN:Hid (∀j,j<=m->∃T',Lo k (0+(l.take j).length) (mF k (Mn.begun k) (l.take j)) T'/\BInv k (0+(l.take j).length) (1+(l.take j).length) (mF k (Mn.begun k) (l.take j))):=ab (λj hj=>Lo.run hk5 (l.take j) (Lo.start k) HBI.out (by rw [aE];omega) (λa ha=>HLT.out.2 a (eS ha)));clear hs3 hm3;go_wp2_with fail
  go_loopw [8] (λi wr=>∃j:Nat,j<=m/\i = .int .i64 (j:Int)/\Ls w wr c k (mF k (Mn.begun k) (l.take j)) []) (λi _=>m - (intOf i).toNat)
  case atStart=>exact ⟨0,aA _,rfl,HL3.out⟩
  case round =>
   obtain ⟨j,hj,rfl,⟨A,Z,hls⟩⟩:=hrel;rename World=>wr;have HLS:=ab hls;clear hls;have q6:IntKind.i64.wrap ((j:Int)+1)=(j:Int)+1:=IntWalk.i64_in _ (by omega);obtain ⟨T1,HLO,HBJ⟩:=HRUN.out j hj;have HLO:=ab HLO;have HBJ:=ab HBJ;have HLJ:Hid ((l.take j).length<=90):=ab (by rw [aE];omega);by_cases hjm:j<m
   ·have hjm2:(j:Int)<(m:Int):=by omega
    obtain ⟨b,off,rfl,hat⟩:∃b off,ao=some ⟨b,off,none⟩/\∀i,i<m->AtAc w b (off+i*5) (l.getD i qp):=by
     rcases HX.out.at_ with h0 | h0
     ·omega
     ·exact h0
    have ha:=hat j hjm;obtain ⟨bo,bc,k4,hz⟩:=ha.z (A:=A) HLS.out.age HLS.out.bel;have hg:l.getD j qp=l[j]'(by have:=HLEN.out;omega):=by simp [List.getD,show j<l.length by have:=HLEN.out;omega]
    have HE:Hid (mF k (Mn.begun k) (l.take (j+1))=(((mF k (Mn.begun k) (l.take j)).act k (l.getD j qp)).look k).2):=ab (vC _ _ _ _ (by have:=HLEN.out;omega));have HBX:Hid ((l.getD j qp).B.length<=300):=ab (by rw [hg];exact HLT.out.2 _ (dy _));have ha2:=ha.below HLS.out.bel;have k0:=ha2.c0;have k1:=ha2.c1;have k2:=ha2.c2;have k3:=ha2.c3;have HAC:=ab ha;have HZZ:=ab hz;clear ha ha2 hat hg hz;generalize l.getD j qp=x at *;have HDO:=ab (Af HLS.out.sy HBJ.out x bo bc HZZ.out HBX.out HAC.out.p1 (by have:=HLJ.out;omega) (by have:=HLJ.out;omega));have HBJ2:=ab (HBJ.out.act x);obtain ⟨o,N,K,P,B⟩:=x;simp only at k0 k1 k2 k3 k4;go_wp2_with fail
    refine HDO.out.mono ?_;rintro e w5 ⟨rfl,hs5⟩;obtain ⟨A5,Z5,hl5⟩:=HLS.out.step hs5;have HL5:=ab hl5;have HDL:=ab (lp hl5.sy (λi hi hu=>(HBJ2.out.up i hi hu).1.wf) hk1);clear hs5 hl5 k0 k1 k2 k3 k4 HDO HLS;go_wp2_with fail
    refine HDL.out.mono ?_;rintro e w6 ⟨rfl,hs6⟩;have HN:Hid (Ls w w6 c k (mF k (Mn.begun k) (l.take (j+1))) []):=ab (by rw [HE.out];exact HL5.out.step hs6);clear hs6 HDL HL5;go_wp2_with fail
    go_roundw
    case rel=>exact ⟨j+1,by omega,by simp,HN.out⟩
    case measure=>simp [intOf];omega
   ·obtain rfl:j=m:=by omega
    have hjm2:¬(j:Int)<(j:Int):=by omega
    have HLL:Hid (l.take j=l):=ab (bA (by have:=HLEN.out;omega));have HLO0:Hid (0+(l.take j).length<=90):=ab (by have:=HLJ.out;omega);have HLV:Hid (1+(l.take j).length<=91):=ab (by have:=HLJ.out;omega);generalize mF k (Mn.begun k) (l.take j)=S at *;generalize 0+(l.take j).length=cl at *;generalize 1+(l.take j).length=lv at *;have hup0:qz S 0=0:=rfl;obtain ⟨Y,rs,ds,ls,Xs,vr,vd,gu,qv,gv,lgv,hs,hzz⟩:=HLS.out.sy;have hc2:wr.cell? ⟨c,2,none⟩=some (.slice (some ⟨gu,0,none⟩) k k):=by rw [af hs.cell];rfl
    have HUPC:Hid (∀q,q<k->wr.cell? ⟨gu,q,none⟩=some (.bool (S.at q).up)):=ab (λq hq=>hs.upAt q hq);have HLQ:=ab (HLS.out.step (hs.noq hzz));have hc3:=aO hs.cell 3;have hcq:∃v,wr.cell? ⟨c,3,none⟩=some v:=⟨_,by rw [af hs.cell];rfl⟩
    obtain ⟨vq,hcq⟩:=hcq;clear hs hzz;go_wp2_with fail
    go_loopw [9,10] (λu i w9=>∃q:Nat,q<=k/\i = .int .i64 (q:Int)/\u = .int .i64 ((qz S q:Nat):Int)/\w9=wr) (λ_ i _=>k - (intOf i).toNat)
    case atStart=>exact ⟨0,aA _,rfl,rfl,rfl⟩
    case round =>
     obtain ⟨q,hq,rfl,rfl,rfl⟩:=hrel;have q7:IntKind.i64.wrap ((q:Int)+1)=(q:Int)+1:=IntWalk.i64_in _ (by omega);have q8:=yl S q;have q9:IntKind.i64.wrap (((qz S q:Nat):Int)+1)=((qz S q:Nat):Int)+1:=IntWalk.i64_in _ (by omega);have HUS:=ab (yk S q);by_cases hqk:q<k
     ·have hqk2:(q:Int)<(k:Int):=by omega
      have hupq:=HUPC.out q hqk;cases hu:(S.at q).up with
      | false =>
       rw [hu] at hupq HUS;generalize qz S q=u0 at *;clear hcq hc3;go_wp2_with fail
       go_roundw
       case rel=>exact ⟨q+1,by omega,by simp,by rw [HUS.out];rfl,trivial⟩
       case measure=>simp [intOf];omega
      | true =>
       rw [hu] at hupq HUS;generalize qz S q=u0 at *;clear hcq hc3;go_wp2_with fail
       go_roundw
       case rel=>exact ⟨q+1,by omega,by simp,by rw [HUS.out];simp,trivial⟩
       case measure=>simp [intOf];omega
     ·obtain rfl:q=k:=by omega
      have hqk2:¬(q:Int)<(q:Int):=by omega
      have q8:=yl S q;have q10:IntKind.i64.wrap (2*((qz S q:Nat):Int))=2*((qz S q:Nat):Int):=IntWalk.i64_in _ (by omega);have HQE:=ab HLQ.out;by_cases hmj:2*((qz S q:Nat):Int)<=(q:Int)
      ·have HBQ:Hid (Below w.heap.size w (wr.setCell ⟨c,3,none⟩ (.slice none 0 0))):=ab (by obtain ⟨A7,Z7,hl7⟩:=HQE.out;exact hl7.bel);generalize qz S q=u0 at *;go_wp2_with fail
       go_ret
       exact ⟨rfl,HBQ.out⟩
      have HMJ:=ab (C1 HLO.out.rel (by have:((List.range q).filter λj=>(S.at j).up).length=qz S q:=rfl;omega));obtain ⟨S1,T',M,lid,h6⟩:=HLO.out.sixty HBJ.out HLO0.out hk5 HMJ.out.2 HMJ.out.1;have HS6:=ab h6;have HBQ:Hid (BInv q cl lv { S with q:=[]}):=ab (HBJ.out.ofq (q:=[]) (λm hm=>by cases hm) (by simp));have HB7:Hid (BInv q (cl+60*q) lv S1):=ab (by have:=HBQ.out.calm 60;rw [h6.calm] at this;exact this);obtain ⟨A7,Z7,hl7⟩:=HQE.out;have HL7:=ab hl7;have HCL:Hid (cl<=90):=ab HLO0.out;have HDC:Hid (Calls Try.prog 14 #[.pointer (some ⟨c,0,none⟩),.int .i64 ((60:Nat):Int)] (wr.setCell ⟨c,3,none⟩ (.slice none 0 0)) λe w'=>e = .returned (.bool true)/\SyP (wr.setCell ⟨c,3,none⟩ (.slice none 0 0)) w' A7 Z7 c q S1):=ab (by
       have:=lC hl7.sy HBQ.out.sv 60 (by have:=HCL.out;omega) (by omega) hk1;rw [h6.calm] at this;exact this)
      obtain ⟨g1,T2,r2,sd2,up2,lg2,wn2,dn2⟩:=h6.look;have G1:=ab g1;have R2:=ab r2;have SD2:=ab sd2;have UP2:=ab up2;have LG2:=ab lg2;have WN2:=ab wn2;have DN2:=ab dn2;clear h6 hl7 g1 r2 sd2 up2 lg2 wn2 dn2 HQE HLQ HLS HLO HBJ;generalize qz S q=u0 at *;go_wp2_with fail
      refine HDC.out.mono ?_;rintro e w10 ⟨rfl,hs8⟩;obtain ⟨A8,Z8,hl8⟩:=HL7.out.step hs8;have HL8:=ab hl8;have HDL:=ab (lp hl8.sy (λi hi hu=>(HB7.out.up i hi hu).1.wf) hk1);clear hs8 hl8 HDC HL7;go_wp2_with fail
      refine HDL.out.mono ?_;rintro e w11 ⟨he,hs9⟩;rw [G1.out] at he;subst he;have HL9:Hid (Ls w w11 c q (S1.look q).2 []):=ab (HL8.out.step hs9);have HB9:Hid (BInv q (cl+60*q) lv (S1.look q).2):=ab HB7.out.look;clear hs9 HDL HL8 HS6 HB7 HBQ;generalize (S1.look q).2=S2 at *;have HLIDN:Hid (lid<q):=ab (by obtain ⟨G,hG⟩:=SD2.out.sb.wk;exact hG.up lid SD2.out.sb.lead.up);have HUPL:Hid ((S2.at lid).up=true):=ab (by rw [R2.out.up lid HLIDN.out];exact SD2.out.sb.lead.up);have HWHO:Hid (∀j,j<q->(S2.at j).up=true->S2.leads j=decide (j=lid)):=ab (λj hj hu=>by
       rw [(jK HB9.out j hj hu).2,(R2.out.nd j hj (by rw [<-R2.out.up j hj];exact hu)).u.done];have:=Cw R2.out SD2.out.sb.lead hj hu;by_cases e:j=lid
       ·rw [this.2 e,bV e];rfl
       ·rw [bq e];cases h0:(S2.at j).s.leads with
        | false=>rfl
        | true=>exact absurd (this.1 h0) e)
      have hlq:lid<q:=HLIDN.out;go_wp2_with fail
      go_loopw [11,12,13] (λle ls i wr=>∃p:Nat,p<=q/\i = .int .i64 (p:Int)/\le = .int .i64 (if lid<p then (lid:Int) else -1)/\ls = .int .i64 (if lid<p then 1 else 0)/\Ls w wr c q S2 []) (λ_ _ i _=>q - (intOf i).toNat)
      case atStart=>exact ⟨0,aA _,rfl,by simp,by simp,HL9.out⟩
      case round =>
       obtain ⟨p,hp,rfl,rfl,rfl,⟨A12,Z12,hls12⟩⟩:=hrel;rename World=>w12;have HL12:=ab hls12;have q11:IntKind.i64.wrap ((p:Int)+1)=(p:Int)+1:=IntWalk.i64_in _ (by omega);by_cases hpq:p<q
       ·have hpq2:(p:Int)<(q:Int):=by omega
        have HNE1:Hid (p≠lid->(if lid<p+1 then (lid:Int) else -1)=(if lid<p then (lid:Int) else -1)):=ab (λe=>by
         by_cases h:lid<p
         ·rw [ax h,ax (by omega)]
         ·rw [aw h,aw (by omega)])
        have HNE2:Hid (p≠lid->(if lid<p+1 then (1:Int) else 0)=(if lid<p then (1:Int) else 0)):=ab (λe=>by
         by_cases h:lid<p
         ·rw [ax h,ax (by omega)]
         ·rw [aw h,aw (by omega)])
        have HEQ:Hid (p=lid->(if lid<p then (1:Int) else 0)=0):=ab (λe=>aw (by omega));generalize (if lid<p then (lid:Int) else -1)=x1 at *;generalize (if lid<p then (1:Int) else 0)=x2 at *;obtain ⟨Y,rs,ds,ls,Xs,vr,vd,gu,qv,gv,lgv,hs,hzz⟩:=hls12.sy;obtain ⟨gr,kr,evr,hkr,hrow⟩:=df hs.rr (by omega);subst evr;have hc0:w12.cell? ⟨c,0,none⟩=some (.slice (some ⟨gr,0,none⟩) q kr):=by rw [af hs.cell];rfl
        have hc2:w12.cell? ⟨c,2,none⟩=some (.slice (some ⟨gu,0,none⟩) q q):=by rw [af hs.cell];rfl
        have hup:=hs.upAt p hpq;have hrj:=hrow p hpq;cases hu:(S2.at p).up with
        | false =>
         rw [hu] at hup;have HNL:Hid (p≠lid):=ab (λe=>by rw [e,HUPL.out] at hu;cases hu);clear hs hzz hrow hls12 hc0 hrj;go_wp2_with fail
         go_roundw
         case rel=>exact ⟨p+1,by omega,by simp,by rw [HNE1.out HNL.out],by rw [HNE2.out HNL.out],HL12.out.ls⟩
         case measure=>simp [intOf];omega
        | true =>
         rw [hu] at hup;have HLD:=ab (ry hs hzz p hpq hu);have HSM:=ab (jK HB9.out p hpq hu);have HWP:=ab (HWHO.out p hpq hu);clear hs hzz hrow hls12 hu;go_wp2_with fail
         refine HLD.out.mono ?_;rintro e w13 ⟨he,hs13⟩;rw [HSM.out.1] at hs13;have HN:Hid (Ls w w13 c q S2 []):=ab (HL12.out.step hs13);rw [HWP.out] at he;clear hs13 HLD hc0 hc2 hup hrj HSM;by_cases hpl:p=lid
         ·rw [bV hpl] at he;subst he;obtain rfl:=HEQ.out hpl;have HPL:=ab hpl;clear hpl;go_wp2_with fail
          go_roundw
          case rel=>exact ⟨p+1,by omega,by simp,by rw [ax (by have:=HPL.out;omega),HPL.out],by rw [ax (by have:=HPL.out;omega)],HN.out⟩
          case measure=>simp [intOf];omega
         ·rw [bq hpl] at he;subst he;have HPL:=ab hpl;clear hpl;go_wp2_with fail
          go_roundw
          case rel=>exact ⟨p+1,by omega,by simp,by rw [HNE1.out HPL.out],by rw [HNE2.out HPL.out],HN.out⟩
          case measure=>simp [intOf];omega
       ·obtain rfl:p=q:=by omega
        have hpq2:¬(p:Int)<(p:Int):=by omega
        rw [ax hlq,ax hlq];obtain ⟨x,hx1,hx2⟩:=HRX.out;subst hx1;have HX2:=ab hx2;have HMJ2:Hid (X.Maj p λj=>T2.up j):=ab (by rw [UP2.out];exact HMJ.out.1);have HGV:=ab (CE R2.out HB9.out SD2.out hk5 HMJ2.out WN2.out DN2.out x hx2 (λS1 e=>⟨_,_,e ▸ HB9.out.given hlq HUPL.out (d9 x)⟩));have HBG:=ab (HB9.out.given hlq HUPL.out (d9 x));obtain ⟨Y,rs,ds,ls,Xs,vr,vd,gu,qv,gv,lgv,hs,hzz⟩:=hls12.sy;obtain ⟨gr,kr,evr,hkr,hrow⟩:=df hs.rr (by omega);subst evr;have hc0:w12.cell? ⟨c,0,none⟩=some (.slice (some ⟨gr,0,none⟩) p kr):=by rw [af hs.cell];rfl
        have hrj:=hrow lid hlq;have hwf:=(HB9.out.up lid hlq HUPL.out).1.wf;have HSB:=ab ((qD ((hs.node lid hlq).up HUPL.out) hwf ro rn rc (d9 x) (HRB.out.z hrc HL12.out.age HL12.out.bel) HRL.out (by omega)).mono (λe w' hp=>hs.sbp hzz hlq HUPL.out hp));have HG3:Hid (∀y∈(bJ (S2.at lid).s (S2.at lid).k (d9 x)).1,y.frm=(lid:Int)/\(y.dst==(lid:Int))=false/\0<=y.dst/\y.dst<(p:Int)):=ab (by
         have h9:=(kD hwf (d9 x)).ms;have h10:=HB9.out.sv.id lid hlq;rw [h10.1,h10.2] at h9;exact iB h9)
        have HQL:Hid (S2.q.length<=2000):=ab HB9.out.sv.ql;clear hs hzz hrow hwf hls12 hx2;generalize bJ (S2.at lid).s (S2.at lid).k (d9 x)=sm at *;obtain ⟨ms,err,s',k'⟩:=sm;simp only at HSB HG3 HGV HBG;obtain ⟨g2,S3,T3,hcal3,r3,sd3,up3,lo3,lg3,log3⟩:=HGV.out;subst g2;have HCAL:=ab hcal3;have HEND:=ab (C8 r3 sd3 (by rw [lg3,lo3];exact LG2.out) (by rw [up3];exact HMJ2.out) x HX2.out log3);have HB14:Hid (BInv p (cl+60*p+10*p) (lv+1) S3):=ab (by have:=HBG.out.calm 10;rw [hcal3] at this;exact this);clear hcal3 r3 sd3 up3 lo3 lg3 log3 HGV;generalize hS4:(S2.set lid ⟨s',k',true⟩).send ms=S4 at *;go_wp2_with fail
        refine HSB.out.mono ?_;rintro e w14 ⟨v2,A14,Z14,rfl,hs14,hr14,hm14⟩;have HDS:=ab (iC hs14 (show (S2.set lid ⟨s',k',true⟩).q.length<=2000 from HQL.out) v2 ms hr14 lid HG3.out);have HM14:=ab hm14;clear hs14 hr14 hm14 hc0 hrj HSB;go_wp2_with fail
        refine HDS.out.mono ?_;rintro e w15 ⟨rfl,hs15⟩;rw [hS4] at hs15;obtain ⟨A15,Z15,hl15⟩:=HL12.out.step (SyP.trans HM14.out hs15);have HL15:=ab hl15;have HDC:Hid (Calls Try.prog 14 #[.pointer (some ⟨c,0,none⟩),.int .i64 ((10:Nat):Int)] w15 λe w'=>e = .returned (.bool true)/\SyP w15 w' A15 Z15 c p S3):=ab (by
         have:=lC hl15.sy HBG.out.sv 10 (by have:=HCL.out;omega) (by omega) hk1;rw [HCAL.out] at this;exact this)
        clear hs15 hl15 HDS HM14 hS4;go_wp2_with fail
        refine HDC.out.mono ?_;rintro e w16 ⟨rfl,hs16⟩;obtain ⟨A16,Z16,hl16⟩:=HL15.out.step hs16;have HL16:=ab hl16;have HDL:=ab (lp hl16.sy (λi hi hu=>(HB14.out.up i hi hu).1.wf) hk1);clear hs16 hl16 HDC HL15;go_wp2_with fail
        refine HDL.out.mono ?_;rintro e w17 ⟨he,hs17⟩;rw [HEND.out.1] at he;subst he;have HL17:Hid (Ls w w17 c p (S3.look p).2 []):=ab (HL16.out.step hs17);have HB17:Hid (BInv p (cl+60*p+10*p) (lv+1) (S3.look p).2):=ab HB14.out.look;have HEN:=ab HEND.out.2;clear hs17 HDL HL16 HB14 HEND;generalize (S3.look p).2=S5 at *;go_wp2_with fail
        go_loopw [16] (λi wr=>∃q:Nat,q<=p/\i = .int .i64 (q:Int)/\Ls w wr c p S5 []) (λi _=>p - (intOf i).toNat)
        case atStart=>exact ⟨0,aA _,rfl,HL17.out⟩
        case round =>
         obtain ⟨q,hq,rfl,⟨A18,Z18,hls18⟩⟩:=hrel;rename World=>w18;have HL18:=ab hls18;have q12:IntKind.i64.wrap ((q:Int)+1)=(q:Int)+1:=IntWalk.i64_in _ (by omega);by_cases hqk:q<p
         ·have hqk2:(q:Int)<(p:Int):=by omega
          obtain ⟨Y,rs,ds,ls,Xs,vr,vd,gu,qv,gv,lgv,hs,hzz⟩:=hls18.sy;obtain ⟨gr,kr,evr,hkr,hrow⟩:=df hs.rr (by omega);subst evr;have hc0:w18.cell? ⟨c,0,none⟩=some (.slice (some ⟨gr,0,none⟩) p kr):=by rw [af hs.cell];rfl
          have hc2:w18.cell? ⟨c,2,none⟩=some (.slice (some ⟨gu,0,none⟩) p p):=by rw [af hs.cell];rfl
          have hup:=hs.upAt q hqk;have hrj:=hrow q hqk;cases hu:(S5.at q).up with
          | false =>
           rw [hu] at hup;clear hs hzz hrow hls18 hc0 hrj;go_wp2_with fail
           go_roundw
           case rel=>exact ⟨q+1,by omega,by simp,HL18.out.ls⟩
           case measure=>simp [intOf];omega
          | true =>
           rw [hu] at hup;have hwf:=(HB17.out.up q hqk hu).1.wf;have HAG:=ab (oc ((hs.node q hqk).up hu) hwf);have HT:=ab (HEN.out q hqk hu);have HU:=ab hu;have HS:=ab hs;have HZ:=ab hzz;clear hs hzz hls18 hwf hu hrow;go_wp2_with fail
           refine HAG.out.mono ?_;rintro e V0 ⟨va,rfl,hva,hba⟩;have HBV:Hid (Below w18.heap.size w18 V0.drew):=ab (hba.trans ((ap V0 1).mono hba.size));have hsv:=HS.out.below HBV.out;have HLV9:=ab (HL18.out.below HBV.out);have hva:OwnL V0.drew w18.heap.size va (dx (S5.at q).s):=hva.below (ap V0 1);obtain ⟨ht1,ht2,ht3⟩:=HT.out;obtain ⟨p0,hp0⟩:∃p0,(dx (S5.at q).s).length=p0+1:=⟨(dx (S5.at q).s).length - 1,by rw [ht1];simp⟩
           have hlast:(dx (S5.at q).s).getD p0 []=d9 x:=by
            have e:p0=((dx (S5.at q).s).length - 1):=by omega
            rw [e,ht1];simp [List.getD]
           obtain ⟨ga,ca,e9,hga,ea,ek,hel,heb,hea⟩:=hva.at_ p0 (by omega);subst e9;rw [hlast] at hel heb;have hlg:=hsv.long;obtain ⟨al,cal,e9,_,_,_⟩:=mQ hlg;subst e9;have HRX9:Hid (rs q∈Xs q):=ab ((HS.out.node q hqk).up HU.out).rX;have HRLT:Hid (rs q<w18.heap.size):=ab (HS.out.alt _ ((HS.out.node q hqk).xA _ HRX9.out));have HRGE:Hid (w.heap.size<=rs q):=ab (HL18.out.age _ ((HS.out.node q hqk).xA _ HRX9.out));have HNY:Hid (∀b∈Y,b∉[rs q]):=ab (λb hb hm=>by rw [aj.1 hm] at hb;exact hsv.yx q hqk _ hb HRX9.out);have hd0:V0.drew.cell? ⟨c,0,none⟩=some (.slice (some ⟨gr,0,none⟩) p kr):=by rw [af hsv.cell];rfl
           have hd5:V0.drew.cell? ⟨c,5,none⟩=some (.slice al S5.long.length cal):=by rw [af hsv.cell];rfl
           have hdr:V0.drew.cell? ⟨gr,q,none⟩=some (.pointer (some ⟨rs q,0,none⟩)):=by
            obtain ⟨gr',kr',evr',_,hrow'⟩:=df hsv.rr (by omega);cases evr';exact hrow' q hqk
           have HDN:=ab (BF hsv HZ.out HB17.out q hqk HU.out ht3);have HV0:Hid (Only [rs q] V0.drew V0.drew):=ab (Only.refl _ _);have hyc:=HNY.out c hsv.cY;have hyg:=HNY.out gr (hsv.rY gr (by simp [Value.ownBlock]));have s0:∀w',Only [rs q] V0.drew w'->w'.cell? ⟨c,0,none⟩=some (.slice (some ⟨gr,0,none⟩) p kr):=λw' ho=>ho.cell hd0 hyc;have s5:∀w',Only [rs q] V0.drew w'->w'.cell? ⟨c,5,none⟩=some (.slice al S5.long.length cal):=λw' ho=>ho.cell hd5 hyc;have sr:∀w',Only [rs q] V0.drew w'->w'.cell? ⟨gr,q,none⟩=some (.pointer (some ⟨rs q,0,none⟩)):=λw' ho=>ho.cell hdr hyg;have sx:∀w',Only [rs q] V0.drew w'->w'.cell? ⟨ga,p0,none⟩=some (.slice ea (d9 x).length ek):=λw' ho=>ho.cell hel (λhm=>by have e:=aj.1 hm;have:=HRLT.out;simp only at e;omega);have sc1:∀w',Only [rs q] V0.drew w'->(convert 29 9 (.slice ea (d9 x).length ek)).run Try.prog w' = .ok (.string (ej (d9 x))) w':=λw' ho=>gE _ _ _ _ _ (gk heb ho (λb off i hb hm=>by
            have h1:=hea _ hb.1;have h2:=HRLT.out;have e:=aj.1 hm;simp only at h1;omega))
           have hrv:IsB V0.drew ro rn rc (d9 x):=HRB.out.below (HL18.out.bel.trans (HBV.out.mono HL18.out.bel.size));have sc2:∀w',Only [rs q] V0.drew w'->(convert 29 9 (.slice ro rn rc)).run Try.prog w' = .ok (.string (ej (d9 x))) w':=λw' ho=>gE _ _ _ _ _ (gk hrv ho (λb off i hb hm=>by
            have h2:=HRGE.out;rcases HRB.out.lt with h1 | h1
            ·omega
            ·have h1:=h1 _ hb.1;have e:=aj.1 hm;simp only at h1;omega))
           have hcl9:S5.long.length<=9223372036854775807:=by
            obtain ⟨al',cal',e8,h1,h2,_⟩:=mQ hlg;omega
           rw [ht2] at hp0;rw [ht2];have q17:((ej (d9 x)).toList==(ej (d9 x)).toList)=true:=by simp
           clear hd0 hd5 hdr hel heb hrv hlg hlast hva hba hc0 hc2 hup hrj hyc hyg hea hga ht1 ht2 ht3 hsv HAG;generalize ej (d9 x)=sb at *;generalize S5.long.length=L at *;have q13:IntKind.i64.wrap ((L:Int) - 1)=(p0:Int):=by
            rw [show (L:Int) - 1=(p0:Int) by omega];exact IntWalk.i64_in _ (by omega)
           have q14:((L:Int)==0)=false:=by simp;omega
           have q15:((L:Int) != (L:Int))=false:=by simp
           have q16:p0<L:=by omega
           have q18:(p0:Int)<(L:Int):=by omega
           clear hp0 hcl9;go_upto_region 44 with (fail)
           go_cut [196] (λv wx=>v = .bool false/\SyP V0.drew wx A18 Z18 c p S5)
           case first =>
            as_aux_lemma =>
            refine wp_region_held_drew (S:=λw'=>Only [rs q] V0.drew w') (by kernel_rfl) (HV0.out) (λam=>?_);refine az 0 ?_;refine az 1 ?_;refine az 2 ?_;refine az 3 ?_;refine az 4 ?_;refine az 5 ?_;refine az 6 ?_;refine az 7 ?_;refine az 8 ?_;refine az 9 ?_;refine az 10 ?_;refine az 11 ?_;refine az 12 ?_;refine az 13 ?_;refine az 14 ?_;refine az 15 ?_;refine az 16 ?_;refine az 17 ?_;refine az 18 ?_;refine az 19 ?_;refine az 20 ?_;refine az 21 ?_;refine az 22 ?_;refine az 23 ?_;refine az 24 ?_;refine az 25 ?_;refine az 26 ?_;refine az 27 ?_;refine az 28 ?_;refine az 29 ?_;refine az 30 ?_;refine az 31 ?_;refine az 32 ?_;refine cf 33 λK hK=>?_;go_simp
            refine HDN.out.mono ?_;rintro e W9 ⟨rfl,hs9,ho9⟩;have HS9:=ab hs9;clear hs9;go_wp2_with fail
            refine hK.out _ _ ho9 (λam=>?_);clear hK K;refine bu ?_;clear ho9;refine az 34 ?_;refine fc ?_;clear am;go_wp2_with fail
            go_meet
            exact ⟨rfl,HS9.out⟩
           case rest =>
           obtain ⟨rfl,hs19⟩:=hcut;rename World=>wx;have HN:Hid (Ls w wx c p S5 []):=ab (HLV9.out.step hs19);clear hs19 s0 s5 sr sx sc1 sc2;go_wp2_with fail
           go_roundw
           case rel=>exact ⟨q+1,by omega,by simp,HN.out⟩
           case measure=>simp [intOf];omega
         ·obtain rfl:q=p:=by omega
          have hqk2:¬(q:Int)<(q:Int):=by omega
          have HBF:=ab HL18.out.bel;clear hls18;go_wp2_with fail
          go_ret
          exact ⟨rfl,HBF.out⟩
end Go.Proofs.Ytnicaicjgaoolaa
