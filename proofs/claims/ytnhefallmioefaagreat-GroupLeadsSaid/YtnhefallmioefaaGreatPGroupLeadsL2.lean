/- What the law leans on. No condition. -/
import Derived.Test.YtnhefallmioefaaGreatW0
import Derived.Test.YtnhefallmioefaaGreatW1
import Derived.Test.YtnhefallmioefaaGreatPGroupLeadsL1
import Derived.Test.YtnhefallmioefaaGreatW20
import Derived.Test.YtnhefallmioefaaGreatW14
set_option maxHeartbeats 8000000
set_option linter.unusedVariables false
set_option linter.unusedSimpArgs false
namespace Go.Proofs.YtnhefallmioefaaGreat
set_option maxRecDepth 20000
structure Gt (n a:Nat) (S:Mn) (T:X.Cs Rec):Prop where
 rel:Pq cD n S T
 long:S.long=(X.recs bG T.lo).map cD
 ai:∃c,X.AI bG n a c T
 pre:∀i,i<n->(S.at i).up=true->de (S.at i).s <+: S.long
 aw:X.Aw bG n a T
section
variable {n a c cl lv:Nat} {S S1:Mn} {T T1:X.Cs Rec} {es:Pn}
theorem Gt.tell (h:Pq cD n S T) (hL:S.long=(X.recs bG T.lo).map cD) (ha:X.AI bG n a c T) (hw:X.Aw bG n a T):(∃T',Gt n a (S.tell n) T')/\S.long <+: (S.tell n).long:=by
 obtain ⟨G,D,K,E,hG,g2,g3,g4⟩:=hw;obtain ⟨h1,h2,h3,h4⟩:=yi jj h hG n 0 T.lo az hG.lo;rw [<-hL] at h1;have hl:(S.tell n).long=(X.recs bG (X.QO bG T n 0 T.lo)).map cD:=h1;refine ⟨⟨T.Uj (X.QO bG T n 0 T.lo),h.tell _,hl,⟨c,ha.Uj ⟨G,hG.gi,hG.ni,hG.ln,hG.mi,hG.up,hG.tb,h2⟩⟩,λi hi hu=>?_,G,D,K,E,⟨hG.gi,hG.ni,hG.ln,hG.mi,hG.up,hG.tb,h2⟩,⟨g2.kl,g2.kd,g2.ld,g2.ly,g2.cl,g2.lg,g2.el,g2.ek,g2.pl⟩,g3,g4⟩,?_⟩
 ·exact KF
 ·rw [hl,hL];exact h3.map cD
theorem Gt.same (h:Gt n a S T) (hr:Pq cD n S1 T1) (ha:X.AI bG n (a+1) c T1) (hw:X.Aw bG n (a+1) T1) (hl:S1.long=S.long) (Up:T1.lo=T.lo) (hp:∀i,i<n->(S1.at i).up=true->de (S1.at i).s <+: S.long):(∃T',Gt n (a+1) S1 T')/\S.long <+: S1.long :=
 ⟨⟨T1,hr,by rw [hl,Up];exact h.long,⟨c,ha⟩,by rw [hl];exact hp,hw⟩,by rw [hl];exact gk _⟩
theorem Gt.more (h:Gt n a S T):(∃T',Gt n (a+1) S T')/\S.long <+: S.long:=by
 obtain ⟨c,hc⟩:=h.ai;exact h.same (T1:=T) h.rel (hc.twice (q:=T.q) (λx hx=>hx) (cZ _)) h.aw.more rfl rfl h.pre
theorem Gt.turn (ct:OM->Bool) (hr:Pq cD n S T) (hL:S.long=(X.recs bG T.lo).map cD) {i:Nat} (hi:i<n) (hu:T.up i=true) {p:List OM×Rp×Dk} {q:List (X.Ms Rec)×X.Nd Rec} (hp:Qf cD p q) (ha:X.AI bG n a c (T.call i q)) (hw:X.Aw bG n a (T.call i q)) (h5:a<=150):(∃T',Gt n a (S.Pj n ct i p) T')/\S.long <+: (S.Pj n ct i p).long:=by
 obtain ⟨q1,h1,h2,h3⟩:=hr.Pj ct i hi hu hp (by have:=ha.ql;omega);exact Gt.tell h1 (by rw [mz];exact hL) (ha.sub h2 h3) (hw.sub h2)
theorem Gt.tick (h:Gt n a S T) (ct:OM->Bool) (ha:a<150) (hn:n<=5) (i:Nat) (hi:i<n):(∃T',Gt n (a+1) (S.Pa n ct i) T')/\S.long <+: (S.Pa n ct i).long:=by
 obtain ⟨c,hc⟩:=h.ai;unfold Mn.Pa;rw [h.rel.up i hi];cases hu:T.up i with
 | false=>exact h.more
 | true =>
  obtain ⟨c',h1⟩:=hc.tick (e:=cU) hn az hi;have h2:=h.aw.tick (e:=cU) az hi;unfold X.Cs.tick at h1 h2;rw [ay hu] at h1 h2;exact Gt.turn ct h.rel h.long hi hu (kX jj rfl (h.rel.nd i hi hu) He) h1 h2 az
theorem Gt.PY (h:Gt n a S T) (ct:OM->Bool) (ha:a<150) (hn:n<=5) (i:Nat) (hi:i<n) (rec:List UInt8) (hr:rec.length<=300):(∃T',Gt n (a+1) (S.OT n ct i rec) T')/\S.long <+: (S.OT n ct i rec).long:=by
 obtain ⟨c,hc⟩:=h.ai;by_cases hB:rec=[]
 ·subst hB;unfold Mn.OT;rw [h.rel.up i hi];cases hu:T.up i with
  | false=>exact h.more
  | true =>
   have h0:=h.rel.none i hi;have e1:S.OH i []=S.set i ⟨(S.at i).s,(S.at i).k,true⟩:=by
    unfold Mn.OH;rw [h.rel.up i hi,hu];rfl
   rw [e1] at h0;exact Gt.tell (S:=S.set i ⟨(S.at i).s,(S.at i).k,true⟩) h0 h.long (hc.twice (q:=T.q) (λx hx=>hx) (cZ _)) h.aw.more
 ·obtain ⟨x,x1,x2⟩:=xO rec hB hr;subst x1;unfold Mn.OT;rw [h.rel.up i hi];cases hu:T.up i with
  | false=>exact h.more
  | true =>
   obtain ⟨er,e1,e2,e3⟩:=kq jj (h.rel.nd i hi hu) He x (mE x) x2;have hp:Qf cD ((bF (S.at i).s (S.at i).k (cD x)).1,(bF (S.at i).s (S.at i).k (cD x)).2.2.1,(bF (S.at i).s (S.at i).k (cD x)).2.2.2) ((X.OH bG (T.nd i) x).1,(X.OH bG (T.nd i) x).2.2):=⟨by simp only;rw [e1],e3⟩
   have h9:=hc.PY hn hi x;have h8:=h.aw.PY hi x;unfold X.Cs.PY at h9 h8;rw [ay hu] at h9 h8;rcases h9 with h1 | h1
   ·exact Gt.turn ct h.rel h.long hi hu hp h1 h8 az
   ·exact Gt.turn ct h.rel h.long hi hu hp h1 h8 az
theorem Gt.lose (h:Gt n a S T) (k:Nat):(∃T',Gt n (a+1) (S.Pb k) T')/\S.long <+: (S.Pb k).long:=by
 obtain ⟨c,hc⟩:=h.ai;exact h.same (lN h.rel k) (hc.twice (jE _ k) (by have:=qg T.q k;omega)) (h.aw.more.sub (jE _ k)) rfl rfl h.pre
theorem Gt.bring (h:Gt n a S T) (ct:OM->Bool) (ha:a<150) (hn:n<=5) (k:Nat) (m:OM) (hm:S.q[k]? = some m):(∃T',Gt n (a+1) ((S.Pb k).Pt n ct m) T')/\S.long <+: ((S.Pb k).Pt n ct m).long:=by
 obtain ⟨c,hc⟩:=h.ai;rw [h.rel.q,fT] at hm;cases Qb:T.q[k]? with
 | none=>rw [Qb] at hm;cases hm
 | some x =>
  rw [Qb] at hm;have hm:m=du cD x:=by simpa using hm.symm
  subst hm;have Rc:x∈T.q:=fL Qb;have QR:=lN h.rel k;obtain ⟨_,j,j1,j2,_⟩:=hc.wk.comes (e:=cU) az Rc (jE T.q k);have hd:x.dst.toNat<n:=az;obtain ⟨c',h1⟩:=hc.comes (e:=cU) hn az Rc (jE T.q k) (qg T.q k);have h8:=h.aw.comes (e:=cU) hn az Rc (jE T.q k);unfold Mn.Pt;have e1:(du cD x).dst=x.dst:=rfl;rw [e1,QR.up _ hd];unfold X.Cs.bring at h1 h8;cases hu:(T.wq (T.q.take k++T.q.drop (k+1))).up x.dst.toNat with
  | false =>
   rw [hu] at h1 h8;exact h.same QR h1 h8 rfl rfl h.pre
  | true =>
   rw [hu] at h1 h8;simp only [if_true] at h1 h8 ⊢;have PF:(X.get bG cU ((T.wq (T.q.take k++T.q.drop (k+1))).nd x.dst.toNat) x).2.bad=false:=JH;exact Gt.turn ct QR h.long hd hu (ov jj rfl mE (QR.nd _ hd hu) (hc.cnt5 az hd) x (hc.b20 x Rc) PF) h1 h8 az
theorem Gt.copy (h:Gt n a S T) (ha:a<=400) (k:Nat):(∃T',Gt n (a+1) (S.Qr k) T')/\S.long <+: (S.Qr k).long:=by
 obtain ⟨c,hc⟩:=h.ai;unfold Mn.Qr;have hg:S.q[k]? = (T.q[k]?).map (du cD):=by rw [h.rel.q,fT]
 rw [hg];cases hm:T.q[k]? with
 | none=>exact h.more
 | some m =>
  have h1:=h.rel.wq (T.q++[m]);have h2:gF S.q (du cD m)=(T.q++[m]).map (du cD):=JC;rw [<-h2] at h1;have O9:∀x∈T.q++[m],x∈T.q:=λx hx=>by
   grind
  exact h.same h1 (hc.twice (q:=T.q++[m]) O9 bL) (h.aw.more.sub O9) rfl rfl h.pre
theorem Gt.Qm (h:Gt n a S T) (hi:OO n cl lv S) (i:Nat) (O9:i<n) (keep:Int):(∃T',Gt n (a+1) (S.PM i keep) T')/\S.long <+: (S.PM i keep).long:=by
 obtain ⟨c,hc⟩:=h.ai;unfold Mn.PM;split
 ·refine h.same (h.rel.Qm hi i O9 keep) (hc.down i) (h.aw.down i) rfl rfl λj hj hu=>?_;exact MT
 ·exact h.more
theorem Gt.back (h:Gt n a S T) (hi:OO n cl lv S) (i:Nat) (O9:i<n):(∃T',Gt n (a+1) (S.back n i) T')/\S.long <+: (S.back n i).long:=by
 obtain ⟨c,hc⟩:=h.ai;have hr:=h.rel.back hi i O9;have hl:(S.back n i).long=S.long:=by unfold Mn.back;split<;>rfl
 refine h.same hr (hc.QE O9) (h.aw.QE O9) hl (X.WI i) λj hj hu=>?_;exact Nc
theorem Gt.P4 (h:Gt n a S T) (hb:OO n cl lv S) (ha:a<150) (x:Act) (hx:x.B.length<=300):(∃T',Gt n (a+1) (S.P4 n es x).2.1 T')/\S.long <+: (S.P4 n es x).2.1.long:=N9
theorem Gt.start (n:Nat):Gt n 0 (Mn.begun n) (X.Cs.UA n):=by
 have h:=Lo.start n;obtain ⟨c,hc⟩:=h.ai;refine ⟨h.rel,rfl,⟨c,hc⟩,λi hi _=>by rw [ic n i hi];exact List.nil_prefix,?_⟩;obtain ⟨G,hG⟩:=(X.CR:X.Wk bG n 0 (X.Cs.UA n:X.Cs Rec))
 refine ⟨G,[],λ_=>[],[],hG,⟨λ_=>List.nil_prefix,λ_=>.inr rfl,λj hj hl=>(by cases hl),λm hm=>(by cases hm),λ_=>ah _,λj hj=>ah _,λj hj t=>ah _,λ_ _=>ah _,λj hj=>⟨0,ah _,ah _,rfl,?_⟩⟩,?_,.inl rfl⟩
 ·exact aP _
 ·have h1:=X.ij n 0 (λj=>X.pt [] j ((X.Cs.UA n:X.Cs Rec).nd j)) (λj hj=>by
   unfold X.pt;rw [am (by show ¬((-1:Int)=(j:Int));omega)];exact ah _)
  simp only [fp,Nat.mul_zero,eK,cB];omega
theorem Ld (n:Nat) (h1:1<=n) (h5:n<=5) (l:List Act) (hx:∀x∈l,x.B.length<=300):∀j,j<=l.length->j<=150->∃T,Gt n j (gQ n (l.take j)).1 T:=by
 intro j;induction j with
 | zero=>intro _ _;exact ⟨_,Gt.start n⟩
 | succ j ih =>
  intro hj Tv;have e:l.take (j+1)=l.take j++[l[j]]:=(bO az).symm;obtain ⟨T,hT⟩:=ih az az;rw [e,lL];exact (hT.P4 (uq n h1 h5 l hx j az az).b az _ (hx _ (cW _))).1
end
namespace X
section
variable {ρ:Type} {z:ρ->Bool} {e:ρ} {n κ Λ:Nat} {b:Int} {T:Cs ρ} {G:Gh ρ} {q:List (Ms ρ)} {K:Int->Lg ρ} {D:List (Int×Nat)} {E:List Int} {st:Nat->Nat}
theorem Gm {α:Type} {l l':List α} (h:l.Sublist l') (g:α->Nat):(l.map g).sum<=(l'.map g).sum:=by
 induction h with
 | slnil=>exact ah _
 | cons a _ ih=>rw [bJ,fC];omega
 | cons_cons a _ ih=>rw [bJ,fC,bJ,fC];omega
theorem F2 (h:q.Sublist T.q) (lo:Lg ρ):WW n Λ G ((T.wq q).Uj lo) st<=WW n Λ G T st:=by
 have h1:WW n Λ G ((T.wq q).Uj lo) st=(q.map (kR T st)).sum+db n (fB n Λ G T st):=rfl;have h2:WW n Λ G T st=(T.q.map (kR T st)).sum+db n (fB n Λ G T st):=rfl;rw [h1,h2];have:=Gm h (kR T st);omega
theorem Cw.sub (h:Cw z n b T G D K E st κ Λ) (hq:∀x∈q,x∈T.q) {lo:Lg ρ} (Up:∃t,Ts n G t lo lo.length):Cw z n b ((T.wq q).Uj lo) G D K E st κ Λ:=by
 have h1:=h.wk.sub hq;have h2:=h.pw.sub hq;exact ⟨⟨h1.gi,h1.ni,h1.ln,h1.mi,h1.up,h1.tb,Up⟩,⟨h2.kl,h2.kd,h2.ld,h2.ly,h2.cl,h2.lg,h2.el,h2.ek,h2.pl⟩,h.rd,h.re⟩
end
end X
section
variable {ρ:Type} {f:ρ->List UInt8}
theorem FW (ct:OM->Bool) (ms:List (X.Ms ρ)):∀q:List (X.Ms ρ),∃q1:List (X.Ms ρ),(ms.map (du f)).foldl (fP ct) (q.map (du f))=q1.map (du f)/\q1.Sublist (q++ms):=by
 induction ms with
 | nil=>exact λq=>⟨q,rfl,by simp⟩
 | cons m l ih =>
  intro q;by_cases h:fP ct (q.map (du f)) (du f m)=q.map (du f)
  ·obtain ⟨q1,h1,h2⟩:=ih q;exact ⟨q1,by rw [bJ,gS,h,h1],h2.trans ((List.Sublist.refl q).append (List.sublist_cons_self m l))⟩
  ·have h0:fP ct (q.map (du f)) (du f m)=(q++[m]).map (du f):=by
    grind [fP,gF]
   obtain ⟨q1,h1,h2⟩:=ih (q++[m]);exact ⟨q1,by rw [bJ,gS,h0,h1],by simpa using h2⟩
end
structure Cg (n:Nat) (S:Mn) (T:X.Cs Rec):Prop where
 rel:Pq cD n S T
 long:S.long=(X.recs bG T.lo).map cD
 pre:∀i,i<n->(S.at i).up=true->de (S.at i).s <+: S.long
section
variable {n a c cl lv:Nat} {b:Int} {S S1:Mn} {T T1:X.Cs Rec} {G:X.Gh Rec}
theorem Cg.Ps (h:Cg n S T):dC n S:=λi hi hu=>(h.rel.nd i hi ((h.rel.up i hi).symm.trans hu)).u.done
theorem Cg.tell (h:Pq cD n S T) (hL:S.long=(X.recs bG T.lo).map cD) (hG:X.QS bG n b G T):∃lo,Cg n (S.tell n) (T.Uj lo)/\∃t,X.Ts n G t lo lo.length:=by
 obtain ⟨h1,h2,h3,h4⟩:=yi jj h hG n 0 T.lo az hG.lo;rw [<-hL] at h1;have hl:(S.tell n).long=(X.recs bG (X.QO bG T n 0 T.lo)).map cD:=h1;refine ⟨X.QO bG T n 0 T.lo,⟨h.tell _,hl,λi hi hu=>?_⟩,h2⟩;exact KF
theorem Cg.turn (h:Pq cD n S T) (hL:S.long=(X.recs bG T.lo).map cD) {i:Nat} (hi:i<n) (hu:T.up i=true) {p:List OM×Rp×Dk} {q:List (X.Ms Rec)×X.Nd Rec} (hp:Qf cD p q) (Rn:q.1.length<=2000) (hG:X.QS bG n b G (T.call i q)) :
  ∃q1 lo,q1.Sublist (T.call i q).q/\((T.call i q).q.length<=2000->q1=(T.call i q).q)/\Cg n (S.Pj n co i p) (((T.call i q).wq q1).Uj lo)/\∃t,X.Ts n G t lo lo.length:=by
 obtain ⟨q1,h1,h2,h3⟩:∃q1:List (X.Ms Rec),(q.1.map (du cD)).foldl (fP co) (T.q.map (du cD))=q1.map (du cD)/\q1.Sublist (T.q++q.1)/\((T.call i q).q.length<=2000->q1=(T.call i q).q):=by
  by_cases hl:(T.call i q).q.length<=2000
  ·refine ⟨T.q++q.1,?_,List.Sublist.refl _,λ_=>rfl⟩;have e1:fP co=gF:=by funext q m;unfold fP co;simp
   rw [e1];exact pW q.1 T.q (by rw [X.dS,aE] at hl;exact hl)
  ·obtain ⟨q1,h1,h2⟩:=FW (f:=cD) co q.1 T.q;exact ⟨q1,h1,h2,λh=>absurd h hl⟩
 have hr:Pq cD n ((S.set i ⟨p.2.1,p.2.2,true⟩).TB co p.1) ((T.call i q).wq q1):=by
  have h4:=((h.wq []).turn i hi hu hp (by show ([]++q.1:List (X.Ms Rec)).length<=2000;simpa using Rn)).wq q1;rw [<-h1,<-hp.ms,<-h.q] at h4;exact h4
 have hG1:X.QS bG n b G ((T.call i q).wq q1):=hG.sub (λx hx=>h2.subset hx);obtain ⟨lo,g1,g2⟩:=Cg.tell hr (by rw [mz];exact hL) hG1;exact ⟨q1,lo,h2,h3,g1,g2⟩
end
def LC (T:X.Cs Rec) (st:Nat->Nat) (R0:Nat) (rd:Nat->Nat):Prop:=∀i,st i<=R0/\(st i<R0->8*(R0 - st i - 1)+(T.nd i).Ox+1<=rd i)
structure JsT (n:Nat) (b:Int) (R0:Nat) (rd:Nat->Nat) (w κ Λ:Nat) (S:Mn) (T:X.Cs Rec) (G:X.Gh Rec) (D:List (Int×Nat)) (K:Int->X.Lg Rec) (E:List Int) (st:Nat->Nat):Prop where
 cg:Cg n S T
 cw:X.Cw bG n b T G D K E st κ Λ
 so:LC T st R0 rd
 ww:R0<=1->X.WW n Λ G T st<=w
def Js (n:Nat) (b:Int) (R0:Nat) (rd:Nat->Nat) (w κ Λ:Nat) (u:Nat->Bool) (S:Mn):Prop:=∃T G D K E st,JsT n b R0 rd w κ Λ S T G D K E st/\T.up=u
section
variable {n a c cl lv R0 w κ Λ r:Nat} {b:Int} {S S1:Mn} {T T1:X.Cs Rec} {G:X.Gh Rec} {rd:Nat->Nat} {u:Nat->Bool}
theorem Js.Ps (h:Js n b R0 rd w κ Λ u S):dC n S:=by
 obtain ⟨T,G,D,K,E,st,h,_⟩:=h;exact h.cg.Ps
theorem Js.tick (h:Js n b R0 rd w κ Λ u S) (Pf:2<=n) (O8:n<=5) (hb:b+1<=1099511627776) (hk:(κ*Λ:Nat)+2*b+1<=2990) {i:Nat} (hi:i<n) (Sc:rd i<8*R0):Js n (b+1) R0 (λj=>if j=i then rd j+1 else rd j) (w+30) κ Λ u (S.Pa n co i):=by
 obtain ⟨T,G,D,K,E,st,⟨c1,c2,c3,c4⟩,QW⟩:=h;have hst:∀j,T.up j=true->8<=(T.nd j).Ox+1->j=i->1<=st j:=λj _ ht e1=>by
  obtain ⟨g1,g2⟩:=c3 j;apply bz;intro h0;have:=g2 (by subst e1;omega);subst e1;omega
 obtain ⟨G',D',K',E',ZE,t1,t2,t3,t4⟩:=X.J8 (e:=cU) c2 Pf O8 hb hi (λh1 h2=>hst i h1 h2 rfl);have YG:LC (T.tick bG cU i) ZE R0 (λj=>if j=i then rd j+1 else rd j):=λj=>by
  obtain ⟨g1,g2⟩:=c3 j;by_cases e1:j=i
  ·grind
  ·grind
 have ZH:R0<=1->X.WW n Λ G' (T.tick bG cU i) ZE<=w+30:=λh1=>by
  have:=t2 (by have:=(c3 i).1;omega);omega
 unfold Mn.Pa;rw [c1.rel.up i hi];cases hu:T.up i with
 | false =>
  have e0:T.tick bG cU i=T:=by unfold X.Cs.tick;rw [hu];rfl
  rw [e0] at t1 YG ZH;exact ⟨T,G',D',K',E',ZE,⟨c1,t1,YG,ZH⟩,QW⟩
 | true =>
  have e0:T.tick bG cU i=T.call i (X.tick bG cU (T.nd i)):=by unfold X.Cs.tick;rw [hu];rfl
  rw [e0] at t1 YG ZH;have hcnt:=c2.cnt hi;have RX:=(X.Wk.tk (e:=cU) ⟨G,c2.wk⟩ hb i hi).1.num;rw [(c2.wk.ni i hi).nn] at RX;obtain ⟨q1,lo,q2,_,q3,q4⟩:=Cg.turn c1.rel c1.long hi hu (kX jj rfl (c1.rel.nd i hi hu) az) az t1.wk;exact ⟨_,G',D',K',E',ZE,⟨q3,t1.sub (λx hx=>q2.subset hx) q4,YG,λh1=>aF (X.F2 q2 lo) (ZH h1)⟩,QW⟩
theorem Js.take (h:Js n b R0 rd w κ Λ u S) (hi:OO n cl lv S) (O8:n<=5) (hb:b<=1099511627776) (hk:(κ*Λ:Nat)+2*b+1<=2990) {m:OM} {q:List OM} (hq:S.q=m::q):Js n b R0 rd (w - 1) κ Λ u (({ S with q:=q }:Mn).Pt n co m)/\(R0<=1->1<=w):=by
 obtain ⟨T,G,D,K,E,st,⟨c1,c2,c3,c4⟩,QW⟩:=h;have hTq:=c1.rel.q;rw [hq] at hTq;cases hT:T.q with
 | nil=>rw [hT] at hTq;cases hTq
 | cons m' q' =>
  rw [hT,bJ] at hTq;obtain ⟨hm,hqq⟩:=List.cons.inj hTq;obtain ⟨G',D',K',E',t1,t2,t3⟩:=X.Kb (e:=cU) c2 O8 hb hT;have Rc:m'∈T.q:=by rw [hT];exact bd
  have O1:∀x∈q',x∈T.q:=λx hx=>by rw [hT];exact aM _ hx
  obtain ⟨i,i1,i2,i3,i4,_⟩:=c2.wk.comes (e:=cU) (q:=q') hb Rc O1;have YG:LC ((T.wq q').bring bG cU m') st R0 rd:=λj=>by
   obtain ⟨g1,g2⟩:=c3 j;refine ⟨g1,λh=>?_⟩;have:=t3 j;omega
  have ZH:R0<=1->X.WW n Λ G' ((T.wq q').bring bG cU m') st<=w - 1/\1<=w:=λh1=>by
   omega
  refine ⟨?_,λh1=>(ZH h1).2⟩;have WM:Pq cD n ({ S with q:=q }:Mn) (T.wq q'):=by
   have:=c1.rel.wq q';rw [<-hqq] at this;exact this
  unfold Mn.Pt;have e1:m.dst=m'.dst:=by rw [hm];rfl
  rw [e1,i3,WM.up i i1];cases hu:T.up i with
  | false =>
   have hbr:(T.wq q').bring bG cU m'=T.wq q':=by
    unfold X.Cs.bring;rw [i3,am (show ¬(T.wq q').up i=true by show ¬T.up i=true;rw [hu];simp)]
   rw [hbr] at t1 YG ZH;rw [show (T.wq q').up i=false from hu];exact ⟨T.wq q',G',D',K',E',st,⟨⟨WM,c1.long,c1.pre⟩,t1,YG,λh1=>(ZH h1).1⟩,QW⟩
  | true =>
   have hbr:(T.wq q').bring bG cU m'=(T.wq q').call i (X.get bG cU (T.nd i) m'):=by
    unfold X.Cs.bring;rw [i3,ay (show (T.wq q').up i=true from hu)];rfl
   rw [hbr] at t1 YG ZH;rw [show (T.wq q').up i=true from hu];have hcnt:=c2.cnt i1;obtain ⟨fr,T7,hg⟩:=hi.sv.q m Bl;have hb20:m'.B.length<=20:=by
    have h1:=hg.bl;have h2:m.B.length=m'.B.length:=by rw [hm];exact aW _
    omega
   have PF:(X.get bG cU (T.nd i) m').2.bad=false:=by
    have:=(t1.wk.ni i i1).bad;rw [X.bf,ay rfl] at this;exact this
   have RX:=i4.num;rw [(c2.wk.ni i i1).nn] at RX;obtain ⟨q1,lo,q2,_,q3,q4⟩:=Cg.turn WM c1.long i1 hu (ov jj rfl mE (WM.nd i i1 hu) (by show (T.nd i).cnt<=2990;omega) m' hb20 PF) (by rcases RX with g | g<;>(show (X.get bG cU (T.nd i) m').1.length<=2000;omega)) t1.wk;rw [hm];exact ⟨_,G',D',K',E',st,⟨q3,t1.sub (λx hx=>q2.subset hx) q4,YG,λh1=>aF (X.F2 q2 lo) (ZH h1).1⟩,QW⟩
theorem Js.mono (h:Js n b R0 rd w κ Λ u S) {b':Int} (hb:b<=b') {w':Nat} (hw:w<=w') {rd':Nat->Nat} (hr:∀j,rd j<=rd' j):Js n b' R0 rd' w' κ Λ u S:=by
 obtain ⟨T,G,D,K,E,st,⟨c1,c2,c3,c4⟩,QW⟩:=h;refine ⟨T,G,D,K,E,st,⟨c1,⟨c2.wk.mono hb,c2.pw,c2.rd,c2.re⟩,λj=>⟨(c3 j).1,λh=>?_⟩,λh=>aF (c4 h) hw⟩,QW⟩;have:=(c3 j).2 h;have:=hr j;omega
theorem pG (k:Nat):S.OS n co (k+1)=(S.OS n co k).Pa n co k:=IU
theorem Js.Ox (h:Js n b R0 (λ_=>r) w κ Λ u S) (Pf:2<=n) (O8:n<=5) (hb:b+5<=1099511627776) (hk:(κ*Λ:Nat)+2*(b+5)+1<=2990) (Sc:r<8*R0):∀k:Nat,k<=n->Js n (b+k) R0 (λj=>if j<k then r+1 else r) (w+30*k) κ Λ u (S.OS n co k):=by
 intro k;induction k with
 | zero=>intro _;exact h.mono az az (λj=>ah _)
 | succ k ih =>
  intro hk2;rw [pG];have h1:=(ih az).tick Pf O8 az az (i:=k) az (by simp;exact Sc);refine h1.mono az az (λj=>?_);split
  ·grind
  ·grind
theorem Js.drain (O8:n<=5) (hb:b<=1099511627776) (hk:(κ*Λ:Nat)+2*b+1<=2990):∀(d:Nat) {S:Mn} {w:Nat},Js n b R0 rd w κ Λ u S->OO n cl lv S->Js n b R0 rd w κ Λ u (S.Pd n co d)/\(R0<=1->(S.Pd n co d).q≠[]->d<=w/\Js n b R0 rd (w - d) κ Λ u (S.Pd n co d)):=by
 intro d;induction d with
 | zero=>intro S w h _;exact ⟨h,λ_ _=>⟨aH _,h⟩⟩
 | succ d ih =>
  intro S w h hi;unfold Mn.Pd;split
  ·grind
  ·rename_i m q hq;obtain ⟨h1,h2⟩:=h.take hi O8 hb hk hq;obtain ⟨fr,hf,hg⟩:=hi.sv.q m Bl;have hi1:OO n cl lv { S with q:=q }:=hi.ofq (λx hx=>by rw [hq];exact aM _ hx) (by have:=hi.sv.ql;rw [hq,aX] at this;omega);obtain ⟨k1,k2⟩:=ih h1 (hi1.Pt co m hg.d0 hg.dn);refine ⟨k1.mono az az (λj=>ah _),λh3 h4=>?_⟩;obtain ⟨g1,g2⟩:=k2 h3 h4;exact ⟨by omega,g2.mono az az (λj=>ah _)⟩
end
section
variable {n a c cl lv R0 w κ Λ r:Nat} {b:Int} {S S1:Mn} {T T1:X.Cs Rec} {G:X.Gh Rec} {rd:Nat->Nat} {u:Nat->Bool}
theorem pB (r:Nat):∀S:Mn,Mn.OI n co (r+1) S=((Mn.OI n co r S).OS n co n).Pd n co 3000:=by
 induction r with
 | zero=>exact λS=>rfl
 | succ r ih=>exact λS=>ih ((S.OS n co n).Pd n co 3000)
theorem wY (r k:Nat):∀S:Mn,Mn.OI n co (r+k) S=Mn.OI n co k (Mn.OI n co r S):=by
 induction r with
 | zero=>intro S;rw [cB];rfl
 | succ r ih =>
  intro S;rw [show r+1+k=(r+k)+1 by omega];exact ih ((S.OS n co n).Pd n co 3000)
def rP (n:Nat) (S:Mn):Prop:=(∀k,k<=n->dC n (S.OS n co k))/\∀d,d<=3000->dC n ((S.OS n co n).Pd n co d)
theorem PR.of (h:∀t,t<r->rP n (Mn.OI n co t S)):PR n r S:=⟨λt ht k hk=>(h t ht).1 k hk,λt ht d hd=>(h t ht).2 d hd⟩
theorem Js.round (h:Js n b R0 (λ_=>r) w κ Λ u S) (hi:OO n cl lv S) (Pf:2<=n) (O8:n<=5) (hb:b+5<=1099511627776) (hk:(κ*Λ:Nat)+2*(b+5)+1<=2990) (Sc:r<8*R0) :
  rP n S/\Js n (b+5) R0 (λ_=>r+1) (w+150) κ Λ u ((S.OS n co n).Pd n co 3000)/\(R0<=1->((S.OS n co n).Pd n co 3000).q≠[]->3000<=w+150/\Js n (b+5) R0 (λ_=>r+1) (w+150 - 3000) κ Λ u ((S.OS n co n).Pd n co 3000)):=by
 have h1:=λk hk2=>h.Ox Pf O8 hb hk Sc k hk2;have h2:Js n (b+5) R0 (λ_=>r+1) (w+150) κ Λ u (S.OS n co n):=(h1 n (ah _)).mono az az (λj=>by show (if j<n then r+1 else r)<=r+1;split<;>omega);have hi1:=hi.OS (ct:=co) n (ah _);have h3:=λd=>h2.drain O8 hb hk d hi1;exact ⟨⟨λk hk2=>(h1 k hk2).Ps,λd _=>(h3 d).1.Ps⟩,(h3 3000).1,(h3 3000).2⟩
theorem Js.rounds (h:Js n b R0 (λ_=>0) w κ Λ u S) (hi:OO n cl lv S) (Pf:2<=n) (O8:n<=5) (R:Nat) (hR:R<=8*R0) (hb:b+5*R<=1099511627776) (hk:(κ*Λ:Nat)+2*(b+5*R)+1<=2990):∀r:Nat,r<=R->Js n (b+5*r) R0 (λ_=>r) (w+150*r) κ Λ u (Mn.OI n co r S)/\∀t,t<r->rP n (Mn.OI n co t S):=by
 intro r;induction r with
 | zero=>intro _;exact ⟨h.mono az az (λ_=>ah _),λt ht=>by omega⟩
 | succ r ih =>
  intro hr;obtain ⟨h1,h2⟩:=ih az;obtain ⟨g1,g2,_⟩:=h1.round (hi.OI (ct:=co) r) Pf O8 az az az;refine ⟨?_,λt ht=>?_⟩
  ·rw [pB];exact g2.mono az az (λ_=>ah _)
  ·grind
theorem Js.empty (h:Js n b 1 (λ_=>0) 22200 κ Λ u S) (hi:OO n cl lv S) (Pf:2<=n) (O8:n<=5) (hb:b+40<=1099511627776) (hk:(κ*Λ:Nat)+2*(b+40)+1<=2990):∃r0 w:Nat,r0<=8/\(Mn.OI n co r0 S).q=[]/\Js n (b+40) 1 (λ_=>8) w κ Λ u (Mn.OI n co r0 S)/\∀t,t<r0->rP n (Mn.OI n co t S):=by
 have key:∀r:Nat,r<=8->(∃r0 w:Nat,r0<=r/\(Mn.OI n co r0 S).q=[]/\Js n (b+40) 1 (λ_=>8) w κ Λ u (Mn.OI n co r0 S)/\∀t,t<r0->rP n (Mn.OI n co t S))\/(2850*r<=22200/\Js n (b+5*r) 1 (λ_=>r) (22200 - 2850*r) κ Λ u (Mn.OI n co r S)/\∀t,t<r->rP n (Mn.OI n co t S)):=by
  intro r;induction r with
  | zero=>intro _;exact .inr ⟨by omega,h.mono az az (λ_=>ah _),λt ht=>by omega⟩
  | succ r ih =>
   intro hr;rcases ih az with ⟨r0,w,k1,k2⟩ | ⟨k0,k1,k2⟩
   ·exact .inl ⟨r0,w,by omega,k2⟩
   ·obtain ⟨g1,g2,g3⟩:=k1.round (hi.OI (ct:=co) r) Pf O8 az az az;have hall:∀t,t<r+1->rP n (Mn.OI n co t S):=λt ht=>by
     grind
    rw [<-pB] at g2 g3;by_cases hq:(Mn.OI n co (r+1) S).q=[]
    ·exact .inl ⟨r+1,22200 - 2850*r+150,ah _,hq,g2.mono az (ah _) (λ_=>by omega),hall⟩
    ·grind
 rcases key 8 (ah _) with g | ⟨g,_⟩
 ·exact g
 ·omega
end
theorem Gt.js {n a:Nat} {S:Mn} {T:X.Cs Rec} (h:Gt n a S T) (Pf:2<=n) (O8:n<=5) (ha:a<=100):∃κ Λ,Js n a 1 (λ_=>0) 22200 κ Λ T.up S/\κ*Λ<=1200/\Λ<=97:=by
 obtain ⟨G,D,K,E,h1⟩:=h.aw;obtain ⟨c,hc⟩:=h.ai;obtain ⟨κ,Λ,g1,g2,g3,g4⟩:=X.Gp h1 Pf O8 ha hc.ql;exact ⟨κ,Λ,⟨T,G,D,K,E,λ_=>1,⟨⟨h.rel,h.long,h.pre⟩,g1,λi=>⟨ah _,λh=>absurd h (Nat.lt_irrefl _)⟩,λ_=>g2⟩,rfl⟩,g3,g4⟩
theorem Gt.jm {n a:Nat} {S:Mn} {T:X.Cs Rec} (h:Gt n a S T) (Pf:2<=n) (O8:n<=5) (ha:a<=100) (hU:2*X.nU T n<=n):∃κ Λ,Js n a 8 (λ_=>0) 0 κ Λ T.up S/\κ*Λ<=2124:=by
 obtain ⟨G,D,K,E,h1⟩:=h.aw;obtain ⟨κ,Λ,g1,g2⟩:=X.Gn h1 Pf O8 ha hU;exact ⟨κ,Λ,⟨T,G,D,K,E,λ_=>8,⟨⟨h.rel,h.long,h.pre⟩,g1,λi=>⟨ah _,λh=>absurd h (Nat.lt_irrefl _)⟩,λh=>by omega⟩,rfl⟩,g2⟩
theorem Gt.minor {n a cl lv:Nat} {S:Mn} {T:X.Cs Rec} (h:Gt n a S T) (hi:OO n cl lv S) (Pf:2<=n) (O8:n<=5) (ha:a<=100) (hU:2*X.nU T n<=n):PR n 60 S/\dC n (Mn.OI n co 60 S):=by
 obtain ⟨κ,Λ,h1,h2⟩:=h.jm Pf O8 ha hU;obtain ⟨g1,g2⟩:=h1.rounds hi Pf O8 60 az az az 60 (ah _);exact ⟨PR.of g2,g1.Ps⟩
namespace X
section
variable {ρ:Type} {z:ρ->Bool} {e:ρ}
variable {n i F l:Nat} {b M:Int} {S:Cs ρ} {Λ:Nat}
theorem Hi (h:Ok z n b Λ S) (hn:n<=5) (Pm:RO n λj=>S.up j) (hb:b+70<=1099511627776) (hF:200+22*(Λ+30)<=F) (hΛ:Λ<=500) (R:Nat) (hR:28<=R) (hR2:R<=60):∃M l,Sd z n (b+R) M (Λ+30) l (S.OG z e n F R)/\(S.OG z e n F R).up=S.up/\(∀j,S.up j=true->Wn (pl (S.nd j)+1121) ((S.OG z e n F R).nd l).Oz ((S.OG z e n F R).nd j))/\∀r,r<R->∀k,(Cs.drain z e k ((S.OG z e n F r).Ox z e n)).q.length<=2000:=by
 obtain ⟨k,k1,⟨M,l,hl⟩,k3,k4⟩:=Fu (e:=e) h hn Pm az hF;obtain ⟨h1,h2⟩:=h.OG (e:=e) (F:=F) hn (k+1) az az;obtain ⟨g1,g2⟩:=h.OG (e:=e) (F:=F) hn k az az;obtain ⟨M',hM,_⟩:=g1.Sr (e:=e) (F:=F) hn az az;have sb:Sb z n (b+(k+1:Nat)) M (Λ+30) l (S.OG z e n F (k+1)):=⟨h1.wk,hl,λx hx=>(by rw [h1.q] at hx;cases hx),by rw [h1.q];exact aH _,λi hi=>by have:=h1.Oz i hi;omega⟩
 have hw:∀j,S.up j=true->Wn (pl (S.nd j)+1121) ((S.OG z e n F (k+1)).nd l).Oz ((S.OG z e n F (k+1)).nd j):=λj hj=>by
  refine K2 (S:=S.OG z e n F k) hn az hM hl j (by rw [g2];exact hj) ?_;have hp:=k4 j;by_cases hk:k=0
  ·subst hk;have:=sF g1.wk hn az g1.q hM rfl rfl j;have e1:S.OG z e n F 0=S:=rfl;rw [e1] at this;rw [e1];omega
  ·by_cases PT:n=1
   ·subst PT;have:=GF (e:=e) g1.wk az g1.q rfl rfl j;omega
   ·have:=qw g1.wk hn PT az ⟨g1.q,λi hi=>k3 az i (by rw [<-g2];exact hi)⟩ hM rfl rfl j;omega
 obtain ⟨s1,s2,s3⟩:=Dj (e:=e) (F:=F) sb hn az (by rw [h2];exact Pm) az;obtain ⟨q1,q2,q3⟩:=s1.OG (e:=e) (F:=F) hn (by rw [s3,h2];exact Pm) az (R - 3 - k) az;have e60:S.OG z e n F R=((S.OG z e n F (k+1)).OG z e n F 2).OG z e n F (R - 3 - k):=by
  rw [<-jU,<-jU];congr 1;omega
 have e59:S.OG z e n F R=(S.OG z e n F (k+1)).OG z e n F (R - 1 - k):=by
  rw [<-jU];congr 1;omega
 refine ⟨M,l,?_,?_,λj hj=>?_,λr hr k5=>?_⟩
 ·grind
 ·rw [e60];exact q3.trans (s3.trans h2)
 ·rw [e59];exact (zh (e:=e) (F:=F) sb hn (by rw [h2];exact Pm) az j (by rw [h2];exact hj) (hw j hj) (R - 1 - k) az).2.2
 ·by_cases hr2:r<k+1
  ·obtain ⟨o1,_⟩:=h.OG (e:=e) (F:=F) hn r az az;obtain ⟨M2,r1,_⟩:=o1.Sr (e:=e) (F:=F) hn az az;have:=r1.small k5;omega
  ·have e0:S.OG z e n F r=(S.OG z e n F (k+1)).OG z e n F (r - (k+1)):=by
    rw [<-jU];congr 1;omega
   rw [e0];obtain ⟨a1,a2,_⟩:=zh (e:=e) (F:=F) sb hn (by rw [h2];exact Pm) az l hl.up Wn.start (r - (k+1)) az;have r1:=jg (e:=e) (F:=F) a1 hn az (by rw [a2,h2];exact Pm) az;have:=r1.small k5;omega
end
end X
def P2 (n:Nat) (b:Int) (S:Mn) (T:X.Cs Rec):Prop:=∃lo,Cg n S (T.Uj lo)/\X.Wk bG n b (T.Uj lo)
section
variable {n a c cl lv r:Nat} {b:Int} {S S1:Mn} {T T1:X.Cs Rec} {G:X.Gh Rec}
theorem P2.Ps (h:P2 n b S T):dC n S:=by
 obtain ⟨lo,h1,_⟩:=h;exact h1.Ps
theorem P2.rel (h:P2 n b S T):Pq cD n S T:=by
 obtain ⟨lo,h1,_⟩:=h;exact ⟨h1.rel.q,h1.rel.bad,h1.rel.len,h1.rel.up,h1.rel.nd,h1.rel.dn⟩
theorem P2.mono {b':Int} (h:P2 n b S T) (hb:b<=b'):P2 n b' S T:=by
 obtain ⟨lo,h1,h2⟩:=h;exact ⟨lo,h1,h2.mono hb⟩
theorem P2.turn1 {lo:X.Lg Rec} (h1:Cg n S (T.Uj lo)) {b':Int} {i:Nat} (hi:i<n) (hu:T.up i=true) {p:List OM×Rp×Dk} {q:List (X.Ms Rec)×X.Nd Rec} (hp:Qf cD p q) (hl:(T.call i q).q.length<=2000) (hw:X.Wk bG n b' ((T.call i q).Uj lo)):P2 n b' (S.Pj n co i p) (T.call i q):=by
 obtain ⟨G,hG⟩:=hw;obtain ⟨q1,lo1,_,g2,g3,g4⟩:=Cg.turn (T:=T.Uj lo) h1.rel h1.long hi hu hp (by have hl:(T.q++q.1).length<=2000:=hl;rw [aE] at hl;omega) (G:=G) hG;have e1:q1=(T.call i q).q:=g2 hl;rw [e1] at g3;exact ⟨lo1,g3,G,hG.gi,hG.ni,hG.ln,hG.mi,hG.up,hG.tb,g4⟩
theorem P2.turn (h:P2 n b S T) {b':Int} {i:Nat} (hi:i<n) (hu:T.up i=true) {p:List OM×Rp×Dk} {q:List (X.Ms Rec)×X.Nd Rec} (hp:Qf cD p q) (hl:(T.call i q).q.length<=2000) (hw:∀lo,X.Wk bG n b (T.Uj lo)->X.Wk bG n b' ((T.call i q).Uj lo)):P2 n b' (S.Pj n co i p) (T.call i q):=by
 obtain ⟨lo,h1,h2⟩:=h;exact P2.turn1 h1 hi hu hp hl (hw lo h2)
theorem P2.tick (h:P2 n b S T) (hb:b+1<=1099511627776) {i:Nat} (hi:i<n) (hc:(T.nd i).cnt<=2990) (hl:(T.tick bG cU i).q.length<=2000):P2 n (b+1) (S.Pa n co i) (T.tick bG cU i):=by
 unfold Mn.Pa;unfold X.Cs.tick at hl ⊢;rw [h.rel.up i hi];cases hu:T.up i with
 | false=>exact h.mono az
 | true =>
  rw [hu] at hl;exact h.turn hi hu (kX jj rfl (h.rel.nd i hi hu) az) hl (λlo hw=>by
   have:=hw.U4 (e:=cU) hb hi;unfold X.Cs.tick at this;rw [ay (show (T.Uj lo).up i=true from hu)] at this;exact this)
theorem P2.OT (h:P2 n b S T) {i:Nat} (hi:i<n) (hu:T.up i=true) (hc:(T.nd i).cnt<=2990) (x:Rec) (hx:bG x=false) (hl:(T.call i ((X.OH bG (T.nd i) x).1,(X.OH bG (T.nd i) x).2.2)).q.length<=2000):P2 n b (S.OT n co i (cD x)) (T.call i ((X.OH bG (T.nd i) x).1,(X.OH bG (T.nd i) x).2.2))/\((X.OH bG (T.nd i) x).2.1=true->(bF (S.at i).s (S.at i).k (cD x)).2.1=0):=by
 obtain ⟨er,e1,e2,e3⟩:=kq jj (h.rel.nd i hi hu) az x (mE x) hx;have hp:Qf cD ((bF (S.at i).s (S.at i).k (cD x)).1,(bF (S.at i).s (S.at i).k (cD x)).2.2.1,(bF (S.at i).s (S.at i).k (cD x)).2.2.2) ((X.OH bG (T.nd i) x).1,(X.OH bG (T.nd i) x).2.2):=⟨by simp only;rw [e1],e3⟩
 refine ⟨?_,λh=>by rw [e1];exact e2.2 h⟩;unfold Mn.OT;rw [h.rel.up i hi,hu];exact h.turn hi hu hp hl (λlo hw=>by
  have:=hw.PY hi x;unfold X.Cs.PY at this;rw [ay (show (T.Uj lo).up i=true from hu)] at this;exact this)
theorem P2.take (h:P2 n b S T) (hi:OO n cl lv S) (hb:b<=1099511627776) {m':X.Ms Rec} {q':List (X.Ms Rec)} (hT:T.q=m'::q') (hc:(T.nd m'.dst.toNat).cnt<=2990) (hl:((T.wq q').bring bG cU m').q.length<=2000):P2 n b (({ S with q:=q'.map (du cD)}:Mn).Pt n co (du cD m')) ((T.wq q').bring bG cU m'):=by
 have ZQ:S.q=du cD m'::q'.map (du cD):=by rw [h.rel.q,hT];rfl
 have Rc:m'∈T.q:=by rw [hT];exact bd
 have O1:∀x∈q',x∈T.q:=λx hx=>by rw [hT];exact aM _ hx
 have h0:P2 n b ({ S with q:=q'.map (du cD)}:Mn) (T.wq q'):=by
  obtain ⟨lo,h1,h2⟩:=h;exact ⟨lo,⟨h1.rel.wq q',h1.long,h1.pre⟩,h2.Yu (q:=q') (λx hx=>O1 x hx)⟩
 obtain ⟨lo,h1,h2⟩:=h;have hcm:∀lo,X.Wk bG n b (T.Uj lo)->X.Wk bG n b (((T.Uj lo).wq q').bring bG cU m'):=λlo hw=>(hw.comes (e:=cU) (q:=q') hb Rc O1).1;obtain ⟨_,i,i1,i2,i4,_⟩:=h2.comes (e:=cU) (q:=q') hb Rc O1;have i3:m'.dst.toNat=i:=az;unfold Mn.Pt;unfold X.Cs.bring at hl ⊢;have e1:(du cD m').dst=m'.dst:=rfl;rw [e1];rw [i3] at hc hl ⊢;rw [h0.rel.up i i1];cases hu:T.up i with
 | false =>
  rw [show (T.wq q').up i=false from hu];exact h0
 | true =>
  rw [show (T.wq q').up i=true from hu] at hl ⊢;obtain ⟨fr,T7,hg⟩:=hi.sv.q (du cD m') (by rw [ZQ];exact bd);have hb20:m'.B.length<=20:=by
   grind [du,cD,aW,hg.bl]
  have hcall:∀lo,X.Wk bG n b (T.Uj lo)->X.Wk bG n b (((T.wq q').call i (X.get bG cU (T.nd i) m')).Uj lo):=λlo hw=>by
   have:=hcm lo hw;unfold X.Cs.bring at this;rw [i3,ay (show ((T.Uj lo).wq q').up i=true from hu)] at this;exact this
  have PF:(X.get bG cU (T.nd i) m').2.bad=false:=by
   obtain ⟨G,hG⟩:=hcall lo h2;have:=(hG.ni i i1).bad;rw [show (((T.wq q').call i (X.get bG cU (T.nd i) m')).Uj lo).nd i=(X.get bG cU (T.nd i) m').2 from ay rfl] at this;exact this
  exact P2.turn1 (T:=T.wq q') (lo:=lo) ⟨h1.rel.wq q',h1.long,h1.pre⟩ i1 hu (ov jj rfl mE (h0.rel.nd i i1 hu) hc m' hb20 PF) hl (hcall lo h2)
end
namespace X
section
variable {ρ:Type} {z:ρ->Bool} {e:ρ} {n F:Nat} {T:Cs ρ}
theorem jG (k:Nat):T.Ox z e (k+1)=(T.Ox z e k).tick z e k:=by
 unfold Cs.Ox;rw [dp,eZ];rfl
theorem Gj (i:Nat):T.q.length<=(T.tick z e i).q.length:=by
 unfold Cs.tick;split
 ·rw [dS,aE];omega
 ·exact ah _
theorem C2 (k d:Nat):(T.Ox z e k).q.length<=(T.Ox z e (k+d)).q.length:=by
 induction d with
 | zero=>exact ah _
 | succ d ih =>
  rw [show k+(d+1)=(k+d)+1 by omega,jG];exact aF ih (Gj _)
theorem xy (x:Nat):∀(d:Nat) (T:Cs ρ),Cs.drain z e (d+x) T=Cs.drain z e x (Cs.drain z e d T):=by
 intro d;induction d with
 | zero=>intro T;rw [cB];rfl
 | succ d ih =>
  intro T;rw [show d+1+x=(d+x)+1 by omega];cases hq:T.q with
  | nil=>rw [eO _ hq,eO _ hq,eO _ hq]
  | cons m q =>
   rw [fo _ hq,fo _ hq];exact ih _
end
end X
section
variable {n a c cl lv r:Nat} {b:Int} {S S1:Mn} {T T1:X.Cs Rec} {G:X.Gh Rec}
theorem P2.Ox (h:P2 n b S T) (O8:n<=5) (hb:b+5<=1099511627776) (hc:∀i,i<n->((T.Ox bG cU n).nd i).cnt<=2990) (hl:(T.Ox bG cU n).q.length<=2000):∀k:Nat,k<=n->P2 n (b+k) (S.OS n co k) (T.Ox bG cU k):=by
 intro k;induction k with
 | zero=>intro _;exact h.mono az
 | succ k ih =>
  intro hk;rw [pG,X.jG];have h1:=(ih az).tick az (i:=k) az (by
   have h2:=(X.dL (z:=bG) (e:=cU) k T).1 k;rw [am az] at h2;rw [h2];exact aF (X.tj (z:=bG) (e:=cU) n k).cnt (hc k az)) (by
   rw [<-X.jG];have:=X.C2 (z:=bG) (e:=cU) (T:=T) (k+1) (n - (k+1));rw [show k+1+(n - (k+1))=n by omega] at this;omega)
  exact h1.mono az
theorem P2.drain (hb:b<=1099511627776) (d:Nat):∀{S:Mn} {T:X.Cs Rec},P2 n b S T->OO n cl lv S->(∀i,i<n->((X.Cs.drain bG cU d T).nd i).cnt<=2990)->(∀j,(X.Cs.drain bG cU j T).q.length<=2000)->P2 n b (S.Pd n co d) (X.Cs.drain bG cU d T):=by
 induction d with
 | zero=>exact λh _ _ _=>h
 | succ d ih =>
  intro S T h hi hc hl;have ZQ:=h.rel.q;cases hT:T.q with
  | nil =>
   rw [X.eO _ hT];rw [hT] at ZQ;unfold Mn.Pd;split
   ·exact h
   ·rename_i m q hq;rw [hq] at ZQ;cases ZQ
  | cons m' q' =>
   rw [X.fo _ hT] at hc ⊢;rw [hT,bJ] at ZQ;have e0:S.Pd n co (d+1)=(({ S with q:=q'.map (du cD)}:Mn).Pt n co (du cD m')).Pd n co d:=by
    conv=>lhs;unfold Mn.Pd
    rw [ZQ]
   rw [e0];obtain ⟨fr,T7,hg⟩:=hi.sv.q (du cD m') (by rw [ZQ];exact bd);have hi1:OO n cl lv { S with q:=q'.map (du cD)}:=hi.ofq (λx hx=>by rw [ZQ];exact aM _ hx) (by have:=hi.sv.ql;rw [ZQ,aX] at this;exact Nat.le_of_succ_le this);have d0:=hg.d0;have dn:=hg.dn;have e2:(du cD m').dst=m'.dst:=rfl;have hd:m'.dst.toNat<n:=by rw [e2] at d0 dn;omega
   have PH:=hl 1;rw [X.fo 0 hT] at PH;have h1:=h.take hi hb hT (by
    have h5:=hc _ hd;have h6:=(X.lR (z:=bG) (e:=cU) d ((T.wq q').bring bG cU m') m'.dst.toNat).cnt;have h7:=(X.tl (z:=bG) (e:=cU) (T:=T.wq q') m' m'.dst.toNat).cnt;have h8:(T.wq q').nd m'.dst.toNat=T.nd m'.dst.toNat:=rfl;rw [h8] at h7;omega) PH
   exact ih h1 (hi1.Pt co _ hg.d0 hg.dn) hc λj=>by
    have:=hl (j+1);rw [X.fo j hT] at this;exact this
theorem P2.round (h:P2 n b S T) (hi:OO n cl lv S) (O8:n<=5) (hb:b+5<=1099511627776) (hc:∀i,i<n->((T.Sr bG cU n 3000).nd i).cnt<=2990) (hl:∀j,(X.Cs.drain bG cU j (T.Ox bG cU n)).q.length<=2000) :
  rP n S/\P2 n (b+5) ((S.OS n co n).Pd n co 3000) (T.Sr bG cU n 3000):=by
 have hct:∀i,i<n->((T.Ox bG cU n).nd i).cnt<=2990:=λi O9=>aF (X.lR (z:=bG) (e:=cU) 3000 (T.Ox bG cU n) i).cnt (hc i O9);have h1:=h.Ox O8 hb hct (hl 0);have h2:P2 n (b+5) (S.OS n co n) (T.Ox bG cU n):=(h1 n (ah _)).mono az;have hi1:=hi.OS (ct:=co) n (ah _);have h3:∀d,d<=3000->P2 n (b+5) ((S.OS n co n).Pd n co d) (X.Cs.drain bG cU d (T.Ox bG cU n)):=λd hd=>h2.drain hb d hi1 (λi O9=>by
  have h9:=(X.lR (z:=bG) (e:=cU) (3000 - d) (X.Cs.drain bG cU d (T.Ox bG cU n)) i).cnt;rw [<-X.xy,show d+(3000 - d)=3000 by omega] at h9;exact aF h9 (hc i O9)) hl
 exact ⟨⟨λk hk=>(h1 k hk).Ps,λd hd=>(h3 d hd).Ps⟩,h3 3000 (ah _)⟩
theorem P2.calm (h:P2 n b S T) (hi:OO n cl lv S) (O8:n<=5) (R:Nat) (hb:b+5*R<=1099511627776) (hc:∀i,i<n->((T.OG bG cU n 3000 R).nd i).cnt<=2990) (hl:∀r,r<R->∀j,(X.Cs.drain bG cU j ((T.OG bG cU n 3000 r).Ox bG cU n)).q.length<=2000):∀r:Nat,r<=R->P2 n (b+5*r) (Mn.OI n co r S) (T.OG bG cU n 3000 r)/\∀t,t<r->rP n (Mn.OI n co t S):=by
 intro r;induction r with
 | zero=>intro _;exact ⟨h.mono az,λt ht=>by omega⟩
 | succ r ih =>
  intro hr;obtain ⟨h1,h2⟩:=ih az;obtain ⟨g1,g2⟩:=h1.round (hi.OI (ct:=co) r) O8 az (λi O9=>by
   have h9:=(X.FA (z:=bG) (e:=cU) (n:=n) (F:=3000) (T:=T.OG bG cU n 3000 (r+1)) (R - (r+1)) i).cnt;rw [<-X.jU,show r+1+(R - (r+1))=R by omega] at h9;exact aF h9 (hc i O9)) (hl r az)
  refine ⟨?_,λt ht=>?_⟩
  ·rw [pB];exact P2.mono g2 az
  ·grind
end
section
variable {n a c cl lv r:Nat} {b:Int} {S S1:Mn} {T T1:X.Cs Rec} {G:X.Gh Rec}
theorem qR:∀d,d<15->d*(100 - 7*d)<=1200:=dZ
structure Em (n:Nat) (S:Mn) (T:X.Cs Rec):Prop where
 cg:Cg n S T
 wk:X.Wk bG n 150 T
 q:T.q=[]
 pl:∀i,i<n->X.pl (T.nd i)<=1200
 lg:∀i,i<n->(T.nd i).Oz.length<=97
theorem Js.em {w κ Λ:Nat} {rd:Nat->Nat} {u:Nat->Bool} (h:Js n b 1 rd w κ Λ u S) (hb:b<=150) (hk:κ*Λ<=1200) (hΛ:Λ<=97) (hq:S.q=[]):∃T,Em n S T/\T.up=u:=by
 obtain ⟨T,G,D,K,E,st,⟨c1,c2,c3,c4⟩,QW⟩:=h;have hTq:=c1.rel.q;rw [hq] at hTq;refine ⟨T,⟨c1,⟨G,c2.wk.mono hb⟩,?_,λi hi=>?_,λi hi=>?_⟩,QW⟩
 ·simp_all
 ·have:=c2.pl hi;omega
 ·have:=c2.lq hi;omega
theorem LX (hG:X.QS bG 1 b G T):T.q=[]:=by
 rw [dg];intro m hm;obtain ⟨i,f,h1,h2,h3,_⟩:=(hG.mi m hm).2.f;omega
theorem Gt.em1 (h:Gt 1 a S T) (ha:a<=100):Em 1 S T:=by
 obtain ⟨G,D,K,E,h1,h2,h3,h4⟩:=h.aw;unfold X.one at h3;rw [ay rfl] at h3;refine ⟨⟨h.rel,h.long,h.pre⟩,⟨G,h1.mono az⟩,LX h1,λi hi=>?_,λi hi=>?_⟩
 ·obtain ⟨A,a1,a2,a3,a4⟩:=h2.pl i hi;have h5:=X.F3 (c:=E.length) (t:=(T.nd i).Ow) h2.cl (h2.kd _);have h6:D.length*E.length<=1200:=aF (fi _ az) (qR D.length az);omega
 ·have:=h2.lg i hi;omega
theorem Gt.empty (h:Gt n a S T) (hi:OO n cl lv S) (ha:a<=100):∃r0 T0,r0<=8/\Em n (Mn.OI n co r0 S) T0/\T0.up=T.up/\∀t,t<r0->rP n (Mn.OI n co t S):=by
 have PT:=hi.n1;have O8:=hi.n5;by_cases hn:n=1
 ·subst hn;exact ⟨0,T,aH _,h.em1 ha,rfl,λt ht=>by omega⟩
 ·obtain ⟨κ,Λ,h1,h2,h3⟩:=h.js az O8 ha;obtain ⟨r0,w,g1,g2,g3,g4⟩:=h1.empty hi az O8 az az;obtain ⟨T0,k1,k2⟩:=g3.em az h2 h3 g2;exact ⟨r0,T0,g1,k1,k2,g4⟩
theorem Gg (h:Pq cD n S T):∀k,k<=n->km S k=X.nU T k/\km S k=((List.range k).filter λj=>T.up j).length:=by
 intro k;induction k with
 | zero=>intro _;exact ⟨rfl,rfl⟩
 | succ k ih =>
  intro hk;obtain ⟨h1,h2⟩:=ih az;have hu:=h.up k az;constructor
  ·unfold km X.nU;rw [X.dj,hu];unfold X.nU at h1;rw [h1]
  ·grind [km,dp,aE]
theorem Nz (h:Em 1 S T) (hi:OO 1 cl lv S) (hu:T.up 0=false):PR 1 60 S/\dC 1 (Mn.OI 1 co 60 S):=by
 have ht:T.Ox bG cU 1=T:=by
  rw [X.jG];show T.tick bG cU 0=T;unfold X.Cs.tick;rw [hu];rfl
 have hd:∀j,X.Cs.drain bG cU j T=T:=λj=>X.eO j h.q;have hr:∀r,T.OG bG cU 1 3000 r=T:=by
  intro r;induction r with
  | zero=>rfl
  | succ r ih =>
   show X.Cs.drain bG cU 3000 ((T.OG bG cU 1 3000 r).Ox bG cU 1)=T;rw [ih,ht,hd]
 have hp:P2 1 150 S T:=⟨T.lo,h.cg,h.wk⟩
 obtain ⟨g1,g2⟩:=hp.calm hi az 60 az (λi O9=>by
  rw [hr];have h1:=h.pl i O9;have h2:=X.qL (T.nd i);obtain ⟨G,hG⟩:=h.wk;have h3:=hG.tb i O9;omega) (λr _ j=>by rw [hr,ht,hd,h.q];exact aH _) 60 (ah _)
 exact ⟨PR.of g2,g1.Ps⟩
end
section
variable {n a c cl lv r R:Nat} {b:Int} {S S1:Mn} {T T1:X.Cs Rec} {G:X.Gh Rec}
structure Ld1 (n:Nat) (S:Mn) (T:X.Cs Rec) (M:Int) (l:Nat):Prop where
 p2:P2 n 1000 S T
 sd:X.Sd bG n 210 M 127 l T
 wn:∀j,T.up j=true->X.Wn 2321 (T.nd l).Oz (T.nd j)
 dn:∀j,j<n->T.up j=false->(T.nd j).cnt<=1600
theorem xB {Λ l:Nat} {M:Int} {U:X.Cs Rec} (hb:b<=220) (hΛ:Λ<=128) (hu:X.Sb bG n b M Λ l U) {j:Nat} (hj:j<n) (hwj:X.Wn 2321 (U.nd l).Oz (U.nd j)):(U.nd j).cnt<=2990:=by
 have h5:=hwj.cnt;have h6:=hu.Oz l hu.lead.up;obtain ⟨G,hG⟩:=hu.wk;have h7:=hG.tb j hj;omega
theorem Em.sixty (h:Em n S T) (hi:OO n cl lv S) (Pm:X.RO n λj=>T.up j) (hR:28<=R) (hR2:R<=60):∃T1 M l,Ld1 n (Mn.OI n co R S) T1 M l/\T1.up=T.up/\∀t,t<R->rP n (Mn.OI n co t S):=by
 have O8:=hi.n5;have O2:∀j,T.up j=true->j<n:=Hg;have hex:∃i,i<n/\T.up i=true:=by
  grind [Pm.meet]
 have ok:X.Ok bG n 150 97 T:=⟨h.wk,h.q,hex,λi Tw=>h.lg i (O2 i Tw)⟩
 obtain ⟨M,l,s1,s2,s3,s4⟩:=X.Hi (e:=cU) (F:=3000) ok O8 Pm az az az R hR hR2;have hw:∀j,T.up j=true->X.Wn 2321 ((T.OG bG cU n 3000 R).nd l).Oz ((T.OG bG cU n 3000 R).nd j):=λj hj=>by
  have h5:=h.pl j (O2 j hj);refine (s3 j hj).more ?_;omega
 have s1:X.Sd bG n 210 M 127 l (T.OG bG cU n 3000 R):=⟨s1.sb.mono az (ah _),s1.q,s1.OE,s1.ag⟩
 have P5:∀j,j<n->T.up j=false->((T.OG bG cU n 3000 R).nd j).cnt<=1600:=λj hj PU=>by
  rw [(X.ti (z:=bG) (e:=cU) (n:=n) (F:=3000) (T:=T) PU R).1];have h1:=h.pl j hj;have h2:=X.qL (T.nd j);obtain ⟨G,hG⟩:=h.wk;have h3:=hG.tb j hj;omega
 have hcnt:∀j,j<n->((T.OG bG cU n 3000 R).nd j).cnt<=2990:=λj hj=>by
  cases PU:T.up j with
  | false=>have:=P5 j hj PU;omega
  | true=>exact xB az az s1.sb hj (hw j PU)
 have hp:P2 n 150 S T:=⟨T.lo,h.cg,h.wk⟩
 obtain ⟨g1,g2⟩:=hp.calm hi O8 R az hcnt s4 R (ah _);exact ⟨T.OG bG cU n 3000 R,M,l,⟨g1.mono az,s1,λj hj=>hw j (by rw [s2] at hj;exact hj),λj hj PU=>P5 j hj (by rw [s2] at PU;exact PU)⟩,s2,g2⟩
theorem yp (h:Pq cD n S T) {M:Int} {l:Nat} (hl:X.Ti M T l) (Pr:l<n):∀(m i:Nat),i+m=n->i<=l->gj S m i=some l:=by
 intro m;induction m with
 | zero=>intro i h1 h2;omega
 | succ m ih =>
  intro i h1 h2;unfold gj;by_cases e1:i=l
  ·grind [Ez,h.up,hl.up]
  ·grind [Ez]
theorem C0 (h:P2 n b S T) {b' M:Int} {Λ l:Nat} (hs:X.Sd bG n b' M Λ l T) (Pm:X.RO n λj=>T.up j):S.long=(X.recs bG (T.nd l).Oz).map cD/\∀i,i<n->(S.at i).up=true->de (S.at i).s=S.long:=by
 obtain ⟨lo,h1,G,hG⟩:=h;have hl:=hs.sb.lead;have Pr:l<n:=hG.up l hl.up;have Up:=X.Np hG (M:=M) (l:=l) ⟨hl.up,hl.Oy,hl.Ow,hl.XU⟩ Pm;have e1:S.long=(X.recs bG lo).map cD:=h1.long;have hrel:Pq cD n S T:=⟨h1.rel.q,h1.rel.bad,h1.rel.len,h1.rel.up,h1.rel.nd,h1.rel.dn⟩
 have ht:∀i,i<n->T.up i=true->de (S.at i).s=(X.recs bG (T.nd l).Oz).map cD:=λi hi hu=>by
  rw [kW hrel hi hu,hs.told hu]
 have hu:=hrel.up l Pr;rw [hl.up] at hu;have p1:=h1.pre l Pr hu;rw [ht l Pr hl.up] at p1;have p2:S.long <+: (X.recs bG (T.nd l).Oz).map cD:=by
  rw [e1];exact (X.U7 Up).map cD
 have e2:S.long=(X.recs bG (T.nd l).Oz).map cD:=p2.eq_of_length (Nat.le_antisymm p2.length_le p1.length_le);exact ⟨e2,λi hi PN=>by rw [e2];exact ht i hi (by rw [<-hrel.up i hi];exact PN)⟩
theorem Ld1.give {M:Int} {l:Nat} (h:Ld1 n S T M l) (hi:OO n cl lv S) (Pm:X.RO n λj=>T.up j) (x:Rec) (hx:bG x=false) :
  l<n/\gj S n 0=some l/\(S.at l).up=true/\(bF (S.at l).s (S.at l).k (cD x)).2.1=0/\dC n (S.OT n co l (cD x))/\PR n 10 (S.OT n co l (cD x))/\dC n (Mn.OI n co 10 (S.OT n co l (cD x)))/\Pp (Mn.OI n co 10 (S.OT n co l (cD x)))/\(∃pre,(Mn.OI n co 10 (S.OT n co l (cD x))).long=pre++[cD x]) /\
   ∀i,i<n->((Mn.OI n co 10 (S.OT n co l (cD x))).at i).up=true->(de ((Mn.OI n co 10 (S.OT n co l (cD x))).at i).s).length=(Mn.OI n co 10 (S.OT n co l (cD x))).long.length:=by
 have O8:=hi.n5;have hs:=h.sd;have hl:=hs.sb.lead;have Pr:l<n:=by obtain ⟨G,hG⟩:=hs.sb.wk;exact hG.up l hl.up
 have hrel:=h.p2.rel;have hu:=hrel.up l Pr;rw [hl.up] at hu;obtain ⟨g1,g2,g3⟩:=hs.give O8 az x;have hq4:=g2.ql;obtain ⟨p1,p2⟩:=h.p2.OT Pr hl.up (xB az az hs.sb Pr (h.wn l hl.up)) x hx az;have Tw:=hi.OT co l Pr (cD x);obtain ⟨T3,q0,q1,q2,q3⟩:=X.Nu (e:=cU) (F:=3000) hs O8 Pm az az az x;have hsb:=X.zh (e:=cU) (F:=3000) g2 O8 Pm az l hl.up (B:=X.pl ((T.call l ((X.OH bG (T.nd l) x).1,(X.OH bG (T.nd l) x).2.2)).nd l)) X.Wn.start;have hgp:=λj (hj:T.up j=true)=>X.Fa (e:=cU) (F:=3000) hs O8 Pm az az az x j hj (h.wn j hj);obtain ⟨c1,c2⟩:=p1.calm Tw O8 10 az (λj hj=>by
  cases PU:T.up j with
  | false =>
   rw [(X.ti (z:=bG) (e:=cU) (n:=n) (F:=3000) (T:=T.call l ((X.OH bG (T.nd l) x).1,(X.OH bG (T.nd l) x).2.2)) PU 10).1,X.bf,am (λe1=>by rw [e1,hl.up] at PU;cases PU)];have:=h.dn j hj PU;omega
  | true =>
   have a1:=(hsb 10 az).1;exact xB az az a1 hj (hgp j PU 10 (ah _))) (λr hr k=>by
  obtain ⟨a1,a2,_⟩:=hsb r az;have r1:=X.jg (e:=cU) (F:=3000) a1 O8 az (by rw [a2];exact Pm) az;have:=r1.small k;omega) 10 (ah _)
 rw [<-q0] at c1;obtain ⟨t1,t2⟩:=C0 c1 q1 (by rw [q2];exact Pm);refine ⟨Pr,yp hrel hl Pr n 0 az (aH _),hu,p2 g1,p1.Ps,PR.of c2,c1.Ps,?_,?_,λi O9 hiu=>by rw [t2 i O9 hiu]⟩
 ·have VL:((Mn.OI n co 10 (S.OT n co l (cD x))).at l).up=true:=by
   rw [c1.rel.up l Pr,q2];exact hl.up
  have hw:=((Tw.OI (ct:=co) 10).up l Pr VL).1.wf;have:=oE hw;rw [t2 l Pr VL] at this;exact ⟨this.1,this.2⟩
 ·grind [Ds]
end
theorem Oq (n:Nat) (l:List Act) (rec:List UInt8) (h1:1<=n) (h5:n<=5) (hl:l.length<=100) (hB:∀x∈l,x.B.length<=300) (hr1:1<=rec.length) (hr3:rec.length<=300):LdP n (gQ n l).1 rec:=by
 obtain ⟨T,hT⟩:=Ld n h1 h5 l hB l.length (ah _) az;have hi:=(uq n h1 h5 l hB l.length (ah _) az).b;rw [bW] at hT hi;generalize (gQ n l).1=S at *;have QW:=Gg hT.rel n (ah _);by_cases Pm:n<2*km S n
 ·obtain ⟨r0,T0,k1,k2,k3,k4⟩:=hT.empty hi hl;have WR:X.RO n λj=>T0.up j:=by
   unfold X.RO;rw [k3,<-QW.2];exact Pm
  have Q4:=hi.OI (ct:=co) r0;obtain ⟨T1,M,k,g1,g2,g3⟩:=k2.sixty Q4 WR (R:=60 - r0) az az;have e60:Mn.OI n co 60 S=Mn.OI n co (60 - r0) (Mn.OI n co r0 S):=by
   rw [<-wY,show r0+(60 - r0)=60 by omega]
  rw [<-e60] at g1;have hr:rec≠[]:=λh=>by rw [h] at hr1;cases hr1
  obtain ⟨x,x1,x2⟩:=xO rec hr hr3;subst x1;obtain ⟨a1,a2,a3,a4,a5,a6,a7,a8,a9,a10⟩:=g1.give (hi.OI (ct:=co) 60) (by rw [g2];exact WR) x x2;refine ⟨PR.of λt ht=>?_,g1.p2.Ps,λ_=>⟨k,a1,a2,a3,a4,a5,a6,a7,a8,a9,a10⟩⟩;by_cases UX:t<r0
  ·exact k4 t UX
  ·have:=g3 (t - r0) az;rw [<-wY,show r0+(t - r0)=t by omega] at this;exact this
 ·have UF:PR n 60 S/\dC n (Mn.OI n co 60 S):=by
   by_cases hn:n=1
   ·subst hn;refine Nz (hT.em1 hl) hi ?_;cases hu:T.up 0 with
    | false=>rfl
    | true =>
     exfalso;have h8:X.nU T 1=1:=by
      unfold X.nU;rw [X.dj,hu];rfl
     omega
   ·grind [hT.minor]
  exact ⟨UF.1,UF.2,λh=>absurd h Pm⟩
end Go.Proofs.YtnhefallmioefaaGreat
