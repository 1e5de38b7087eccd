/-
  What the proof of the law leans on: contracts of the program's functions, one behind another. No condition.
-/
import Derived.Test.YtnhefallmioefaaGreatV0
import Derived.Lib.SlBytesConst
import Derived.Test.YtnhefallmioefaaGreatV40
import Derived.Test.YtnhefallmioefaaGreatV20
import Derived.Test.YtnhefallmioefaaGreatV41
import Derived.Test.YtnhefallmioefaaGreatV26
import Derived.Test.YtnhefallmioefaaGreatV27
set_option linter.unusedVariables false
set_option linter.unusedSimpArgs false
namespace Go.Proofs.YtnhefallmioefaaGreat
set_option maxRecDepth 20000
section
variable {ρ:Type} {z:ρ->Bool} {n a c:Nat} {T:X.Cs ρ} {q:List (X.Ms ρ)}
theorem X.room6:∀c,c<151->(150 - c)*min 20 c+c<=2620:=by decide +kernel
theorem X.AI.cnt5 (h:X.AI z n a c T) (ha:a<=150) {i:Nat} (hi:i<n):(T.nd i).cnt<=2990:=by
 have h1:=h.pl i hi;have h2:(a - c)*min 20 c+c<=2620:=by
  have h3:=X.room6 c (by have:=h.ca;omega);have:=CZ (min 20 c) (show a - c<=150 - c by omega);omega
 have h3:=X.Co (T.nd i);obtain ⟨G,hG⟩:=h.wk;have:=hG.tb i hi;omega
theorem X.AI.sub (h:X.AI z n a c T) (hq:∀x∈q,x∈T.q) (hl:q.length<=T.q.length):X.AI z n a c (T.wq q) :=
 ⟨h.wk.q_sub hq,aD hl h.ql,h.ca,h.lg,λm hm=>h.ms m (hq m hm),λm hm=>h.b20 m (hq m hm),h.pl⟩
end
structure Gs (n a:Nat) (S:Mn) (T:X.Cs Rec):Prop where
 rel:CRel fu n S T
 long:S.long=(X.recs i5 T.lo).map fu
 ai:∃c,X.AI i5 n a c T
 pre:∀i,i<n->(S.at i).up=true->cU (S.at i).s <+: S.long
section
variable {n a c cl lv:Nat} {S S1:Mn} {T T1:X.Cs Rec}
theorem kI {i:Nat} (h:CRel fu n S T) (hi:i<n) (hu:T.up i=true):cU (S.at i).s=(X.recs i5 (X.tells (T.nd i))).map fu:=by
 have hr:=h.nd i hi hu;unfold cU X.tells;rw [hr.u.log,hr.u.agreed,<-gW,qT qU]
theorem Gs.tell (h:CRel fu n S T) (hL:S.long=(X.recs i5 T.lo).map fu) (ha:X.AI i5 n a c T):(∃T',Gs n a (S.tell n) T')/\S.long <+: (S.tell n).long:=by
 obtain ⟨G,hG⟩:=ha.wk;obtain ⟨h1,h2,h3,h4⟩:=Cv qU h hG n 0 T.lo (by omega) hG.lo;rw [<-hL] at h1;have hl:(S.tell n).long=(X.recs i5 (X.lookF i5 T n 0 T.lo)).map fu:=h1;refine ⟨⟨T.wlo (X.lookF i5 T n 0 T.lo),h.tell _,hl,⟨c,ha.wlo ⟨G,hG.gi,hG.ni,hG.ln,hG.mi,hG.up,hG.tb,h2⟩⟩,λi hi hu=>?_⟩,?_⟩
 ·have hu2:T.up i=true:=by rw [<-h.up i hi];exact hu
  rw [hl];show cU (S.at i).s <+: _;rw [kI h hi hu2];exact (h4 i (aH _) (by omega) hu2).map fu
 ·rw [hl,hL];exact h3.map fu
theorem Gs.same (h:Gs n a S T) (hr:CRel fu n S1 T1) (ha:X.AI i5 n (a+1) c T1) (hl:S1.long=S.long) (hlo:T1.lo=T.lo) (hp:∀i,i<n->(S1.at i).up=true->cU (S1.at i).s <+: S.long):(∃T',Gs n (a+1) S1 T')/\S.long <+: S1.long :=
 ⟨⟨T1,hr,by rw [hl,hlo];exact h.long,⟨c,ha⟩,by rw [hl];exact hp⟩,by rw [hl];exact dZ _⟩
theorem Gs.more (h:Gs n a S T):(∃T',Gs n (a+1) S T')/\S.long <+: S.long:=by
 obtain ⟨c,hc⟩:=h.ai;exact h.same (T1:=T) h.rel (hc.twice (q:=T.q) (λx hx=>hx) (cf _)) rfl rfl h.pre
theorem td (ct:Msg->Bool) (i:Nat) (nd:Nod) (ms:List Msg):((S.set i nd).sendC ct ms).long=S.long:=rfl
theorem Gs.turn (ct:Msg->Bool) (hr:CRel fu n S T) (hL:S.long=(X.recs i5 T.lo).map fu) {i:Nat} (hi:i<n) (hu:T.up i=true) {p:List Msg×Rp×Dk} {q:List (X.Ms Rec)×X.Nd Rec} (hp:RelP fu p q) (ha:X.AI i5 n a c (T.call i q)) (h5:a<=150):(∃T',Gs n a (S.turnC n ct i p) T')/\S.long <+: (S.turnC n ct i p).long:=by
 obtain ⟨q1,h1,h2,h3⟩:=hr.turnC ct i hi hu hp (by have:=ha.ql;omega);exact Gs.tell h1 (by rw [td];exact hL) (ha.sub h2 h3)
theorem Gs.tick (h:Gs n a S T) (ct:Msg->Bool) (ha:a<150) (hn:n<=5) (i:Nat) (hi:i<n):(∃T',Gs n (a+1) (S.tickC n ct i) T')/\S.long <+: (S.tickC n ct i).long:=by
 obtain ⟨c,hc⟩:=h.ai;unfold Mn.tickC;rw [h.rel.up i hi];cases hu:T.up i with
 | false=>exact h.more
 | true =>
  obtain ⟨c',h1⟩:=hc.tick (e:=AU) hn (by omega) hi;unfold X.Cs.tick at h1;rw [aA hu] at h1;exact Gs.turn ct h.rel h.long hi hu (qJ qU rfl (h.rel.nd i hi hu) (by have:=hc.cnt5 (by omega) hi;omega)) h1 (by omega)
theorem Gs.subm (h:Gs n a S T) (ct:Msg->Bool) (ha:a<150) (hn:n<=5) (i:Nat) (hi:i<n) (rec:List UInt8) (hr:rec.length<=300):(∃T',Gs n (a+1) (S.submC n ct i rec) T')/\S.long <+: (S.submC n ct i rec).long:=by
 obtain ⟨c,hc⟩:=h.ai;by_cases hB:rec=[]
 ·subst hB;unfold Mn.submC;rw [h.rel.up i hi];cases hu:T.up i with
  | false=>exact h.more
  | true =>
   have h0:=h.rel.none i hi;have e1:S.submit i []=S.set i ⟨(S.at i).s,(S.at i).k,true⟩:=by
    unfold Mn.submit;rw [h.rel.up i hi,hu];rfl
   rw [e1] at h0;exact Gs.tell (S:=S.set i ⟨(S.at i).s,(S.at i).k,true⟩) h0 h.long (hc.twice (q:=T.q) (λx hx=>hx) (cf _))
 ·obtain ⟨x,x1,x2⟩:=Ci rec hB hr;subst x1;unfold Mn.submC;rw [h.rel.up i hi];cases hu:T.up i with
  | false=>exact h.more
  | true =>
   obtain ⟨er,e1,e2,e3⟩:=mV qU (h.rel.nd i hi hu) (by have:=hc.cnt5 (by omega) hi;omega) x (yw x) x2;have hp:RelP fu ((bw (S.at i).s (S.at i).k (fu x)).1,(bw (S.at i).s (S.at i).k (fu x)).2.2.1,(bw (S.at i).s (S.at i).k (fu x)).2.2.2) ((X.submit i5 (T.nd i) x).1,(X.submit i5 (T.nd i) x).2.2):=⟨by simp only;rw [e1],e3⟩
   have h9:=hc.subm hn hi x;unfold X.Cs.subm at h9;rw [aA hu] at h9;rcases h9 with h1 | h1
   ·exact Gs.turn ct h.rel h.long hi hu hp h1 (by omega)
   ·exact Gs.turn ct h.rel h.long hi hu hp h1 (by omega)
theorem pc (h:CRel fu n S T) (k:Nat):CRel fu n (S.loseC k) (T.wq (T.q.take k++T.q.drop (k+1))):=by
 have:=h.wq (T.q.take k++T.q.drop (k+1));rw [bS,gW,Dy,<-h.q] at this;exact this
theorem qc (q:List (X.Ms Rec)) (k:Nat):∀x∈q.take k++q.drop (k+1),x∈q:=λx hx=>by
 rcases ap.1 hx with g | g
 ·exact eK g
 ·exact mK g
theorem uG (q:List (X.Ms Rec)) (k:Nat):(q.take k++q.drop (k+1)).length<=q.length:=by
 rw [ay,aI,bz];omega
theorem Gs.lose (h:Gs n a S T) (k:Nat):(∃T',Gs n (a+1) (S.loseC k) T')/\S.long <+: (S.loseC k).long:=by
 obtain ⟨c,hc⟩:=h.ai;exact h.same (pc h.rel k) (hc.twice (qc _ k) (by have:=uG T.q k;omega)) rfl rfl h.pre
theorem Gs.bring (h:Gs n a S T) (ct:Msg->Bool) (ha:a<150) (hn:n<=5) (k:Nat) (m:Msg) (hm:S.q[k]? = some m):(∃T',Gs n (a+1) ((S.loseC k).bringC n ct m) T')/\S.long <+: ((S.loseC k).bringC n ct m).long:=by
 obtain ⟨c,hc⟩:=h.ai;rw [h.rel.q,hJ] at hm;cases hm2:T.q[k]? with
 | none=>rw [hm2] at hm;cases hm
 | some x =>
  rw [hm2] at hm;have hm:m=dj fu x:=by simpa using hm.symm
  subst hm;have hmq:x∈T.q:=fM hm2;have hrl:=pc h.rel k;obtain ⟨_,j,j1,j2,_⟩:=hc.wk.comes (e:=AU) (by omega) hmq (qc T.q k);have hd:x.dst.toNat<n:=by omega
  obtain ⟨c',h1⟩:=hc.comes (e:=AU) hn (by omega) hmq (qc T.q k) (uG T.q k);unfold Mn.bringC;have e1:(dj fu x).dst=x.dst:=rfl;rw [e1,hrl.up _ hd];unfold X.Cs.bring at h1;cases hu:(T.wq (T.q.take k++T.q.drop (k+1))).up x.dst.toNat with
  | false =>
   rw [hu] at h1;exact h.same hrl h1 rfl rfl h.pre
  | true =>
   rw [hu] at h1;simp only [if_true] at h1 ⊢;have hbad:(X.get i5 AU ((T.wq (T.q.take k++T.q.drop (k+1))).nd x.dst.toNat) x).2.bad=false:=by
    obtain ⟨G,hG⟩:=h1.wk;have:=(hG.ni _ hd).bad;rw [X.jS,aA rfl] at this;exact this
   exact Gs.turn ct hrl h.long hd hu (uN qU rfl yw (hrl.nd _ hd hu) (hc.cnt5 (by omega) hd) x (hc.b20 x hmq) hbad) h1 (by omega)
theorem Gs.copy (h:Gs n a S T) (ha:a<=400) (k:Nat):(∃T',Gs n (a+1) (S.copyC k) T')/\S.long <+: (S.copyC k).long:=by
 obtain ⟨c,hc⟩:=h.ai;unfold Mn.copyC;have hg:S.q[k]? = (T.q[k]?).map (dj fu):=by rw [h.rel.q,hJ]
 rw [hg];cases hm:T.q[k]? with
 | none=>exact h.more
 | some m =>
  have hmq:m∈T.q:=fM hm;have h1:=h.rel.wq (T.q++[m]);have h2:fK S.q (dj fu m)=(T.q++[m]).map (dj fu):=by
   unfold fK;rw [aA (by have:=hc.ql;rw [h.rel.q,aP];omega),h.rel.q];simp
  rw [<-h2] at h1;refine h.same h1 (hc.twice (q:=T.q++[m]) (λx hx=>?_) (by simp)) rfl rfl h.pre;rcases ap.1 hx with g | g
  ·exact g
  ·rw [aj.1 g];exact hmq
theorem Gs.crash (h:Gs n a S T) (hi:BInv n cl lv S) (i:Nat) (hin:i<n) (keep:Int):(∃T',Gs n (a+1) (S.crashC i keep) T')/\S.long <+: (S.crashC i keep).long:=by
 obtain ⟨c,hc⟩:=h.ai;unfold Mn.crashC;split
 ·refine h.same (h.rel.crash hi i hin keep) (hc.down i) rfl rfl λj hj hu=>?_;have hat:=Mn.at_set S i j ⟨(S.at i).s,cS (S.at i).k keep,false⟩ (by rw [h.rel.len];exact hin);have hu:((S.set i ⟨(S.at i).s,cS (S.at i).k keep,false⟩).at j).up=true:=hu;show cU ((S.set i ⟨(S.at i).s,cS (S.at i).k keep,false⟩).at j).s <+: _;rw [hat] at hu ⊢;split at hu
  ·cases hu
  ·rename_i e1;rw [aw e1];exact h.pre j hj hu
 ·exact h.more
theorem Gs.back (h:Gs n a S T) (hi:BInv n cl lv S) (i:Nat) (hin:i<n):(∃T',Gs n (a+1) (S.back n i) T')/\S.long <+: (S.back n i).long:=by
 obtain ⟨c,hc⟩:=h.ai;have hr:=h.rel.back hi i hin;have hl:(S.back n i).long=S.long:=by unfold Mn.back;split<;>rfl
 refine h.same hr (hc.rise hin) hl (X.lo_rise i) λj hj hu=>?_;have hu2:(T.rise i).up j=true:=by rw [<-hr.up j hj];exact hu
 rw [kI hr hj hu2];unfold X.Cs.rise at hu2 ⊢;cases hui:T.up i with
 | true =>
  rw [hui] at hu2;simp only [if_true] at hu2 ⊢;rw [<-kI h.rel hj hu2];exact h.pre j hj (by rw [h.rel.up j hj];exact hu2)
 | false =>
  rw [hui] at hu2;simp only [fo,if_false] at hu2 ⊢;show (X.recs i5 (X.tells (if j=i then X.back (T.nd i) else T.nd j))).map fu <+: _;by_cases e1:j=i
  ·rw [aA e1];have:X.tells (X.back (T.nd i))=[]:=rfl;rw [this];exact List.nil_prefix
  ·rw [aw e1] at hu2 ⊢;rw [<-kI h.rel hj hu2];exact h.pre j hj (by rw [h.rel.up j hj];exact hu2)
end
section
variable {n a cl lv:Nat} {S:Mn} {T:X.Cs Rec} {es:Cuts}
theorem Gs.nodone (h:Gs n a S T):dt n S:=λi hi hu=>(h.rel.nd i hi ((h.rel.up i hi).symm.trans hu)).u.done
theorem BInv.actG (h:BInv n cl lv S) (x:Act):BInv n (cl+1) (lv+1) (S.actG n es x).2.1:=by
 have h0:BInv n (cl+1) (lv+1) S:=h.mono (by omega) (by omega);unfold Mn.actG;split
 ·split
  ·rename_i hx;obtain ⟨i,hi,_,e⟩:=dJ hx;simp only [e];exact (h.tickC (dG es) i hi).mono (by omega) (by omega)
  ·exact h0
 split
 ·split
  ·rename_i hx;obtain ⟨i,hi,_,e⟩:=dJ hx;simp only [e];have em:S.q[i]? = some (S.q.getD i kW):=by rw [bK hi];simp [hi]
   obtain ⟨fr,_,hg⟩:=h.sv.q _ (fM em);exact ((h.loseC i).bringC (dG es) _ hg.d0 hg.dn).mono (by omega) (by omega)
  ·exact h0
 split
 ·split
  ·exact (h.loseC _).mono (by omega) (by omega)
  ·exact h0
 split
 ·split
  ·exact (h.copyC _).mono (by omega) (by omega)
  ·exact h0
 split
 ·split
  ·rename_i hx;obtain ⟨i,hi,_,e⟩:=dJ hx;simp only [e];exact (h.crashC i hi x.K).mono (by omega) (by omega)
  ·exact h0
 split
 ·split
  ·rename_i hx;obtain ⟨i,hi,_,e⟩:=dJ hx;simp only [e];exact (h.back i hi).mono (by omega) (by omega)
  ·exact h0
 split
 ·split<;>exact h0
 split
 ·split<;>exact h0
 split
 ·split
  ·rename_i hx;obtain ⟨i,hi,_,e⟩:=dJ hx;simp only [e];exact (h.submC (dG es) i hi x.B).mono (by omega) (by omega)
  ·exact h0
 ·exact h0
theorem Gs.actG (h:Gs n a S T) (hb:BInv n cl lv S) (ha:a<150) (x:Act) (hx:x.B.length<=300):(∃T',Gs n (a+1) (S.actG n es x).2.1 T')/\S.long <+: (S.actG n es x).2.1.long:=by
 have h0:=h.more;have hn:=hb.n5;obtain ⟨r,hr⟩:∃r,r=S.actG n es x:=⟨_,rfl⟩
 rw [<-hr];unfold Mn.actG at hr;split at hr
 ·split at hr
  ·rename_i hx;obtain ⟨i,hi,_,e⟩:=dJ hx;rw [hr];simp only [e];exact h.tick (dG es) ha hn i hi
  ·rw [hr];exact h0
 split at hr
 ·split at hr
  ·rename_i hx;obtain ⟨i,hi,_,e⟩:=dJ hx;rw [hr];simp only [e];have em:S.q[i]? = some (S.q.getD i kW):=by rw [bK hi];simp [hi]
   exact h.bring (dG es) ha hn i _ em
  ·rw [hr];exact h0
 split at hr
 ·split at hr
  ·rw [hr];exact h.lose _
  ·rw [hr];exact h0
 split at hr
 ·split at hr
  ·rw [hr];exact h.copy (by omega) _
  ·rw [hr];exact h0
 split at hr
 ·split at hr
  ·rename_i hx;obtain ⟨i,hi,_,e⟩:=dJ hx;rw [hr];simp only [e];exact h.crash hb i hi x.K
  ·rw [hr];exact h0
 split at hr
 ·split at hr
  ·rename_i hx;obtain ⟨i,hi,_,e⟩:=dJ hx;rw [hr];simp only [e];exact h.back hb i hi
  ·rw [hr];exact h0
 split at hr
 ·split at hr<;>(rw [hr];exact h0)
 split at hr
 ·split at hr<;>(rw [hr];exact h0)
 split at hr
 ·split at hr
  ·rename_i hx2;obtain ⟨i,hi,_,e⟩:=dJ hx2;rw [hr];simp only [e];exact h.subm (dG es) ha hn i hi x.B hx
  ·rw [hr];exact h0
 ·rw [hr];exact h0
structure LongOk (S:Mn):Prop where
 len:S.long.length<=500000
 row:∀r∈S.long,r.length<=8000
theorem qu {s:Rp} {k:Dk} (h:Wf s k):(cU s).length<=500000/\∀r∈cU s,r.length<=8000:=by
 have h1:=h.logb;have h2:=uu (s.log.take s.agreed);rw [aI] at h2;refine ⟨by unfold cU;omega,λr hr=>?_⟩;unfold cU recs at hr;obtain ⟨x,hx,rfl⟩:=cF.1 hr;exact h.recl x (eK (ol.1 hx).1)
theorem ry {S:Mn} (hw:∀i,i<n->(S.at i).up=true->Wf (S.at i).s (S.at i).k) (m:Nat):∀(i:Nat) (lg:List (List UInt8)),i+m<=n->(lg.length<=500000/\∀r∈lg,r.length<=8000)->(fq S m i lg).length<=500000/\∀r∈fq S m i lg,r.length<=8000:=by
 induction m with
 | zero=>intro i lg _ h;exact h
 | succ m ih =>
  intro i lg hi h;unfold fq;refine ih (i+1) _ (by omega) ?_;split
  ·rename_i hu;split
   ·exact qu (hw i (by omega) hu)
   ·exact h
  ·exact h
theorem LongOk.turn {ct:Msg->Bool} {i:Nat} {p:List Msg×Rp×Dk} (h:LongOk S) (hb:BInv n cl lv (S.turnC n ct i p)):LongOk (S.turnC n ct i p):=by
 have:=ry (S:=S.turnC n ct i p) (n:=n) (λj hj hu=>(hb.up j hj hu).1.wf) n 0 S.long (by omega) ⟨h.len,h.row⟩;have e:(S.turnC n ct i p).long=fq (S.turnC n ct i p) n 0 S.long:=by
  exact mj (S:=(S.set i ⟨p.2.1,p.2.2,true⟩).sendC ct p.1) (S':=S.turnC n ct i p) rfl n 0 S.long
 exact ⟨by rw [e];exact this.1,by rw [e];exact this.2⟩
theorem LongOk.same {S':Mn} (h:LongOk S) (e:S'.long=S.long):LongOk S':=⟨by rw [e];exact h.len,by rw [e];exact h.row⟩
theorem LongOk.tickC {ct:Msg->Bool} {i:Nat} (h:LongOk S) (hb:BInv n cl lv (S.tickC n ct i)):LongOk (S.tickC n ct i):=by
 unfold Mn.tickC at hb ⊢;split
 ·rename_i hu;rw [aA hu] at hb;exact h.turn hb
 ·exact h
theorem LongOk.bringC {ct:Msg->Bool} {m:Msg} (h:LongOk S) (hb:BInv n cl lv (S.bringC n ct m)):LongOk (S.bringC n ct m):=by
 unfold Mn.bringC at hb ⊢;split
 ·rename_i hu;rw [aA hu] at hb;exact h.turn hb
 ·exact h
theorem LongOk.submC {ct:Msg->Bool} {i:Nat} {r:List UInt8} (h:LongOk S) (hb:BInv n cl lv (S.submC n ct i r)):LongOk (S.submC n ct i r):=by
 unfold Mn.submC at hb ⊢;split
 ·rename_i hu;rw [aA hu] at hb;exact h.turn hb
 ·exact h
theorem LongOk.actG (h:LongOk S) (hb:BInv n cl lv S) (x:Act):LongOk (S.actG n es x).2.1:=by
 have h2:=hb.actG (es:=es) x;unfold Mn.actG at h2 ⊢;split
 ·rename_i h0;rw [aA h0] at h2;split
  ·rename_i hx;rw [aA hx] at h2;exact h.tickC h2
  ·exact h
 rename_i h0;rw [aw h0] at h2;split
 ·rename_i h1;rw [aA h1] at h2;split
  ·rename_i hx;rw [aA hx] at h2;exact LongOk.bringC (h.same rfl) h2
  ·exact h
 rename_i h1;rw [aw h1] at h2;split
 ·split
  ·exact h.same rfl
  ·exact h
 rename_i h1;rw [aw h1] at h2;split
 ·split
  ·refine h.same ?_;unfold Mn.copyC;split<;>rfl
  ·exact h
 rename_i h1;rw [aw h1] at h2;split
 ·split
  ·refine h.same ?_;unfold Mn.crashC;split<;>rfl
  ·exact h
 rename_i h1;rw [aw h1] at h2;split
 ·split
  ·refine h.same ?_;unfold Mn.back;split<;>rfl
  ·exact h
 rename_i h1;rw [aw h1] at h2;split
 ·split<;>exact h
 rename_i h1;rw [aw h1] at h2;split
 ·split<;>exact h
 rename_i h1;rw [aw h1] at h2;split
 ·rename_i h1;rw [aA h1] at h2;split
  ·rename_i hx;rw [aA hx] at h2;exact h.submC h2
  ·exact h
 ·exact h
end
structure GOk (n a:Nat) (S:Mn):Prop where
 b:BInv n a (1+a) S
 g:∃T,Gs n a S T
 l:LongOk S
theorem wH (n:Nat) (h1:1<=n) (h5:n<=5):GOk n 0 (Mn.begun n) :=
 ⟨fx n h1 h5,by
  have h:=Lo.start n;obtain ⟨c,hc⟩:=h.ai;exact ⟨X.Cs.new0 n,h.rel,rfl,⟨c,hc⟩,λi hi _=>by rw [gD n i hi];exact List.nil_prefix⟩,⟨by show (0:Nat)<=_;omega,λr hr=>by cases hr⟩⟩
theorem GOk.act {n a:Nat} {S:Mn} {es:Cuts} (h:GOk n a S) (ha:a<150) (x:Act) (hx:x.B.length<=300):GOk n (a+1) (S.actG n es x).2.1/\S.long <+: (S.actG n es x).2.1.long:=by
 obtain ⟨T,hT⟩:=h.g;obtain ⟨h1,h2⟩:=hT.actG (es:=es) h.b ha x hx;exact ⟨⟨(h.b.actG x).mono (by omega) (by omega),h1,h.l.actG h.b x⟩,h2⟩
theorem GOk.nodone {n a:Nat} {S:Mn} (h:GOk n a S):dt n S:=by
 obtain ⟨T,hT⟩:=h.g;exact hT.nodone
theorem GOk.pre {n a:Nat} {S:Mn} (h:GOk n a S) {i:Nat} (hi:i<n) (hu:(S.at i).up=true):cU (S.at i).s <+: S.long:=by
 obtain ⟨T,hT⟩:=h.g;exact hT.pre i hi hu
def f9 (n:Nat) (l:List Act):Mn×Cuts:=l.foldl (λp a=>((p.1.actG n p.2 a).2.1,(p.1.actG n p.2 a).2.2)) (Mn.begun n,[])
theorem lD (n:Nat) (l:List Act) (a:Act):f9 n (l++[a])=(((f9 n l).1.actG n (f9 n l).2 a).2.1,((f9 n l).1.actG n (f9 n l).2 a).2.2):=by
 unfold f9;rw [fN];rfl
theorem BA (n:Nat) (h1:1<=n) (h5:n<=5) (l:List Act) (hx:∀x∈l,x.B.length<=300):∀j,j<=l.length->j<=150->GOk n j (f9 n (l.take j)).1:=by
 intro j;induction j with
 | zero=>intro _ _;exact wH n h1 h5
 | succ j ih =>
  intro hj hj2;have e:l.take (j+1)=l.take j++[l[j]]:=(bf (by omega)).symm;rw [e,lD];exact ((ih (by omega) (by omega)).act (by omega) _ (hx _ (bO _))).1
open Go.RowKit Go.ChangeMaps Go.WideMaps Go.Maps
section
variable {w w':World} {A A' Z Z':List Nat} {g n cl lv:Nat} {S:Mn} {es:Cuts}
theorem Gy.long (h:Gy w A Z g n S es):∃v,w.cell? ⟨g,2,none⟩=some v/\ImmL w A v S.long:=by
 obtain ⟨Y,os,rs,ds,ls,Xs,vl,nb,mb,qv,lv,h,hz⟩:=h;exact ⟨lv,by rw [af h.cell];rfl,h.long⟩
theorem tQ (n i:Nat) (h:i<n):fJ n (i:Int)=true:=by unfold fJ;simp [h]
theorem uX (S:Mn) (n i:Nat) (h:i<n) (K:Int) (B:List UInt8):S.actG n [] ⟨8,i,K,B⟩=((S.at i).up&&((bw (S.at i).s (S.at i).k B).2.1==0),S.submC n cY i B,[]):=by
 unfold Mn.actG;simp only [tQ n i h,<-jD];rfl
set_option maxHeartbeats 8000000 in
theorem nT:Calls Tryz.prog 6 #[] w λe w'=>e = .returned (.bool true)/\Below w.heap.size w w':=by
 obtain ⟨k,S,S2,hM,hD⟩:=Dg;have b0:=fx 3 (by omega) (by omega);have b1:=b0.calmC (ct:=cY) 60;rw [<-hM.s] at b1;have b2:=b1.submC cY k hM.kn [120];have b3:=b2.calmC (ct:=cY) 10;rw [<-hM.s2] at b3;have HC1:Hid (∀w1 A Z (g:Nat),Gy w1 A Z g 3 (Mn.begun 3) []->Calls Tryz.prog 14 #[.pointer (some ⟨g,0,none⟩),.int .i64 60] w1 λe w'=>e = .returned (.tuple #[])/\GyP w1 w' A Z g 3 S []):=ab λw1 A Z g h=>by
  have:=lU h b0 60 (by omega) (by omega) hD.c1;rw [<-hM.s] at this;exact this
 have HLD:Hid (∀w1 A Z (g:Nat),Gy w1 A Z g 3 S []->Calls Tryz.prog 15 #[.pointer (some ⟨g,0,none⟩)] w1 λe w'=>e = .returned (.tuple #[.int .i64 (k:Int),.bool true])/\GyP w1 w' A Z g 3 S []):=ab λw1 A Z g h=>by
  have:=nQ h b1 hD.d1;rw [hM.lead] at this;exact this
 have HDO:Hid (∀w1 A Z (g:Nat),Gy w1 A Z g 3 S []->∀ba,Imm w1 A (.slice ba 1 1) [120]->Calls Tryz.prog 9 #[.pointer (some ⟨g,0,none⟩),.agg #[.int .i64 8,.int .i64 (k:Int),.int .i64 0,.slice ba 1 1]] w1 λe w'=>e = .returned (.bool true)/\GyP w1 w' A Z g 3 (S.submC 3 cY k [120]) []):=ab λw1 A Z g h ba hv=>by
  have:=zU h b1 hD.d1 (by omega) (by omega) ⟨8,k,0,[120]⟩ ba 1 (.inr hv) (show ([120]:List UInt8).length<=1000000 by decide) (show (-9223372036854775808:Int)<=0 by decide) (show (0:Int)<=9223372036854775807 by decide) (by rw [uX S 3 k hM.kn];exact hD.d2);rw [uX S 3 k hM.kn,hM.up,hM.ok] at this;exact this
 have HC2:Hid (∀w1 A Z (g:Nat),Gy w1 A Z g 3 (S.submC 3 cY k [120]) []->Calls Tryz.prog 14 #[.pointer (some ⟨g,0,none⟩),.int .i64 10] w1 λe w'=>e = .returned (.tuple #[])/\GyP w1 w' A Z g 3 S2 []):=ab λw1 A Z g h=>by
  have:=lU h b2 10 (by omega) (by omega) hD.c2;rw [<-hM.s2] at this;exact this
 have HAG:Hid (∀w1 A Z (g:Nat),Gy w1 A Z g 3 S2 []->∀i:Nat,i<3->Calls Tryz.prog 12 #[.pointer (some ⟨g,0,none⟩),.int .i64 (i:Int)] w1 λe w'=>∃ao c,e = .returned (.slice ao 1 c)/\Gy w' A Z g 3 S2 []/\ReadsL w' ao c [[120]]/\Mv A A Z Z w1 w'):=ab λw1 A Z g h i hi=>by
  refine (nU h i hi (b3.upok hD.d3) (hM.told i hi).1).mono ?_;rintro e w2 ⟨v,rfl,h2,hv,m2⟩;rw [(hM.told i hi).2] at hv;obtain ⟨ao,c,rfl,hr⟩:=hv.reads;exact ⟨ao,c,rfl,h2,hr,m2⟩
 have HLG:Hid (∀w1 A Z (g:Nat),Gy w1 A Z g 3 S2 []->Calls Tryz.prog 10 #[.pointer (some ⟨g,0,none⟩)] w1 λe w'=>∃ao c,e = .returned (.slice ao 1 c)/\Below w1.heap.size w1 w'):=ab λw1 A Z g h=>by
  obtain ⟨v,hc,hl⟩:=h.long;rw [hM.long] at hl;refine (rU hc hl (by decide) (by decide)).mono ?_;rintro e w2 ⟨v2,rfl,ho,hb⟩;obtain ⟨ao,c,e1,_⟩:=ho.shape;exact ⟨ao,c,by rw [e1];rfl,hb⟩
 clear hM hD b0 b1 b2 b3;go_enter Tryz.func6,Tryz.ntmps6
 go_wp2_with fail
 refine (nK (A:=[]) 3 (by omega) (by omega) (λb hb=>by cases hb)).mono ?_;rintro e w1 ⟨g,A1,Z1,rfl,hs1,hm1⟩;have H1:=ab (HC1.out w1 A1 Z1 g hs1);have M1:=ab hm1;clear hs1 hm1;go_wp2_with fail
 refine H1.out.mono ?_;rintro e w2 ⟨rfl,A2,Z2,hs2,hm2⟩;have H2:=ab (HLD.out w2 A2 Z2 g hs2);have M2:=ab (M1.out.trans hm2);clear hs2 hm2;go_wp2_with fail
 refine H2.out.mono ?_;rintro e w3 ⟨rfl,A3,Z3,hs3,hm3⟩;have M3:=ab (M2.out.trans hm3);have kc:=λ(w:World) (C:Array Value) (n c:Nat)=>Lib.run_convert_bytes_const (P:=Tryz.prog) w 31 5 C n c Tryz.underlying31 Tryz.underlying5;have hb4:Below w3.heap.size w3 (w3.alloc (.cells #[.int .u8 120] 5 (1,2))):=(az _ _).alloc (ah _) _;have M4:=ab (M3.out.trans (Mv.below hb4));have HIB:Imm (w3.alloc (.cells #[.int .u8 120] 5 (1,2))) A3 (.slice (some ⟨w3.heap.size,0,none⟩) 1 1) [120]:=⟨_,_,rfl,qe w3 [120] #[.int .u8 120] rfl 5 (1,2) w3.heap.size rfl 1 rfl 1,ah _,λp hp=>by
  cases hp;exact ⟨λhm=>by have:=hs3.alt _ hm;simp at this,by simp⟩⟩
 have H4:=ab (HDO.out _ A3 Z3 g (hs3.below hb4) _ HIB);clear hs3 hm3 HIB hb4;go_wp2_with fail
 refine H4.out.mono ?_;rintro e w5 ⟨rfl,A5,Z5,hs5,hm5⟩;have H5:=ab (HC2.out w5 A5 Z5 g hs5);have M5:=ab (M4.out.trans hm5);clear hs5 hm5;go_wp2_with fail
 refine H5.out.mono ?_;rintro e w6 ⟨rfl,A6,Z6,hs6,hm6⟩;have H6:=ab hs6;have M6:=ab (M5.out.trans hm6);clear hs6 hm6 kc;go_wp2_with fail
 go_loopw [5] (λi wr=>∃j:Nat,j<=3/\i = .int .i64 (j:Int)/\Gy wr A6 Z6 g 3 S2 []/\Mv [] A6 [] Z6 w wr) (λi _=>3 - (intOf i).toNat)
 case atStart=>exact ⟨0,by omega,rfl,H6.out,M6.out⟩
 case round =>
  obtain ⟨j,hj,rfl,h7,m7⟩:=hrel;rename World=>w7;have q8:IntKind.i64.wrap ((j:Int)+1)=(j:Int)+1:=IntWalk.i64_in _ (by omega);have M7:=ab m7;have H7:=ab h7;clear h7 m7;by_cases hlt:j<3
  ·have hj3:(j:Int)<3:=by omega
   have HA7:=ab (HAG.out w7 A6 Z6 g H7.out j hlt);go_wp2_with fail
   refine HA7.out.mono ?_;rintro e w8 ⟨ao,c,rfl,h8,r8,m8⟩;have HA8:=ab (HAG.out w8 A6 Z6 g h8 j hlt);have M8:=ab (M7.out.trans m8);clear h8 r8 m8;go_wp2_with fail
   refine HA8.out.mono ?_;rintro e w9 ⟨ao2,c2,rfl,h9,r9,m9⟩;have H9:=ab h9;have M9:=ab (M8.out.trans m9);obtain ⟨b,off,rfl,ea,em,ek,g1,g2⟩:=r9.at_ 0 (by decide);have hcv:(convert 31 9 (.slice ea em ek)).run Tryz.prog w9 = .ok (.string (fp [120])) w9:=iM _ _ _ _ _ g2;have g1:w9.cell? ⟨b,off,none⟩=some (.slice ea em ek):=by simpa using g1
   have heq:((fp [120]).toList==[120])=true:=by decide +kernel
   clear h9 r9 m9 g2;generalize fp [120]=sx at *;go_wp2_with fail
   go_roundw
   case rel=>exact ⟨j+1,by omega,by simp,H9.out,M9.out⟩
   case measure=>simp [intOf];omega
  ·obtain rfl:j=3:=by omega
   have HL7:=ab (HLG.out w7 A6 Z6 g H7.out);go_wp2_with fail
   refine HL7.out.mono ?_;rintro e w8 ⟨ao,c,rfl,hb8⟩;have HB8:Hid (Below w.heap.size w w8):=ab (((M7.out.trans (Mv.below hb8)).mv.only).below (ah _) (λk hk=>by cases hk));clear hb8;go_wp2_with fail
   go_ret
   exact ⟨rfl,HB8.out⟩
end
structure LgA (w wr:World) (A Z:List Nat) (g n:Nat) (S:Mn) (es:Cuts):Prop where
 gy:Gy wr A Z g n S es
 bel:Below w.heap.size w wr
 age:∀b∈A,w.heap.size<=b
section
variable {w wr w2:World} {A A' Z Z':List Nat} {g n:Nat} {S S':Mn} {es es':Cuts}
theorem LgA.mv (h:LgA w wr A Z g n S es) (h2:Gy w2 A' Z' g n S' es') (m:Mv A A' Z Z' wr w2):LgA w w2 A' Z' g n S' es' :=
 ⟨h2,h.bel.trans (m.mv.only.below h.bel.size (λb hb=>h.age b (h.gy.zA b hb))),λb hb=>by
  rcases m.ext b hb with h1 | h1
  ·exact h.age b h1
  ·exact aD h.bel.size h1⟩
theorem LgA.below (h:LgA w wr A Z g n S es) (hb:Below wr.heap.size wr w2):LgA w w2 A Z g n S es:=h.mv (h.gy.below hb) (Mv.below hb)
theorem LgA.begun {w3:World} (hb:Below w.heap.size w wr) (h:Gy w3 A Z g n S es) (hm:Mv [] A [] Z wr w3):LgA w w3 A Z g n S es :=
 ⟨h,hb.trans ((hm.mv.only.below (ah _) (λb hb=>by cases hb)).mono hb.size),λb hb2=>by
  rcases hm.ext b hb2 with h1 | h1
  ·cases h1
  ·exact aD hb.size h1⟩
theorem ImmL.mv {v:Value} {L:List (List UInt8)} (h:ImmL wr A v L) (hz:∀b∈Z,b∈A) (m:Mv A A' Z Z' wr w2):ImmL w2 A' v L:=h.step m.mv.only hz m.ext
theorem AtAc.z {b off:Nat} {x:Act} (h:AtAc w b off x) (hA:∀b∈A,w.heap.size<=b) (hb:Below w.heap.size w wr):∃bo bc,wr.cell? ⟨b,off+3,none⟩=some (.slice bo x.B.length bc)/\ImmZ wr A (.slice bo x.B.length bc) x.B:=by
 obtain ⟨bo,bc,h1,h2,h3⟩:=h.c4;refine ⟨bo,bc,cell_later hb h1,?_⟩;by_cases h0:x.B.length=0
 ·exact .inl h0
 ·refine .inr ⟨bo,bc,rfl,h2.below hb,h3,λp hp=>?_⟩;obtain ⟨k1,k2,k3⟩:=h2;rcases k3 with k3 | ⟨b',off',e,k4⟩
  ·omega
  ·rw [e] at hp;cases hp;have h9:=World.block_lt_of_cell? w _ (k4 0 (by omega));have h9:b'<w.heap.size:=h9;exact ⟨λhm=>by have:=hA _ hm;show False;simp only at this;omega,aE h9 hb.size⟩
def Mn.toldG (S:Mn) (i:Nat):List (List UInt8):=if (S.at i).up then cU (S.at i).s else []
theorem lf (h:Gy w A Z g n S es) (hU:mA n S) (i:Nat) (hi:i<n) :
  Calls Tryz.prog 12 #[.pointer (some ⟨g,0,none⟩),.int .i64 (i:Int)] w λe w'=>∃ao c,e = .returned (.slice ao (S.toldG i).length c)/\ReadsL w' ao c (S.toldG i)/\Gy w' A Z g n S es/\Mv A A Z Z w w':=by
 unfold Mn.toldG;cases hu:(S.at i).up with
 | false =>
  refine (tV h (i:Int) (.inr ⟨i,hi,rfl,hu⟩)).mono ?_;rintro e w1 ⟨rfl,rfl⟩;exact ⟨none,0,rfl,⟨ah _,λj hj=>by cases hj⟩,h,Mv.refl _ _ _⟩
 | true =>
  refine (nU h i hi hU hu).mono ?_;rintro e w1 ⟨v,rfl,h1,hv,m1⟩;obtain ⟨ao,c,rfl,hr⟩:=hv.reads;exact ⟨ao,c,rfl,hr,h1,m1⟩
theorem Ds (h:Gy w A Z g n S es) (hU:mA n S) (i:Nat) (hi:i<n) :
  Calls Tryz.prog 13 #[.pointer (some ⟨g,0,none⟩),.int .i64 (i:Int)] w λe w'=>e = .returned (.bool (S.at i).up)/\Gy w' A Z g n S es/\Mv A A Z Z w w':=by
 have hgy:=h;obtain ⟨Y,os,rs,ds,ls,Xs,vl,nb,mb,qv,lv,h,hz⟩:=h;cases hu:(S.at i).up with
 | false =>
  refine (gB h i hi hu).mono ?_;rintro e w1 ⟨rfl,rfl⟩;exact ⟨rfl,hgy,Mv.refl _ _ _⟩
 | true =>
  refine (jz h i hi hu (hU i hi hu).2).mono ?_;rintro e w1 ⟨rfl,hc2,ho2,hrx⟩;exact ⟨rfl,⟨_,_,_,_,_,_,_,_,_,_,_,hc2,hz⟩,Mv.only ho2 (λb hb=>by rw [aj.1 hb];exact (hz _).2 (.inr ⟨i,hi,hrx⟩))⟩
theorem CF (h:Gy w A Z g n S es) (hl:LongOk S):Calls Tryz.prog 10 #[.pointer (some ⟨g,0,none⟩)] w λe w'=>∃v,e = .returned v/\ImmL w' A v S.long/\Below w.heap.size w w':=by
 obtain ⟨v,hc,h2⟩:=h.long;refine (rU hc h2 (by have:=hl.len;omega) hl.row).mono ?_;rintro e w2 ⟨v2,rfl,ho,hb⟩;exact ⟨v2,rfl,ImmL.new ho h.alt,hb⟩
end
set_option maxHeartbeats 2000000 in
theorem vC (n:Int) (ao:Option Addr) (m cp:Nat) (l:List Act) (w:World) (h:IsAx w ao m l) (hle:m<=cp) (hm:m<=140737488355328) :
  Calls Tryz.prog 3 #[.int .i64 n,.slice ao m cp] w λe w'=>e = .returned (.bool true)/\Below w.heap.size w w':=by
 have HX:=ab h;have HLEN:=ab h.len;clear h;go_enter Tryz.func3,Tryz.ntmps3
 go_wp2_with fail
 refine nT.mono ?_;rintro e w1 ⟨rfl,hb1⟩;have HB1:=ab hb1;clear hb1;by_cases hbad:n<1\/5<n
 ·have HN:=ab (zJ n hbad (w:=w1));go_wp2_with fail
  refine HN.out.mono ?_;rintro e w2 ⟨rfl,rfl⟩;by_cases hn1:n<1
  ·clear hbad;go_wp2_with fail
   go_ret
   exact ⟨rfl,HB1.out⟩
  ·have hn5:5<n:=by omega
   clear hbad;go_wp2_with fail
   go_ret
   exact ⟨rfl,HB1.out⟩
 obtain ⟨k,rfl⟩:∃k:Nat,n=(k:Int):=⟨n.toNat,by omega⟩
 have hk1:1<=k:=by omega
 have hk5:k<=5:=by omega
 have q1:¬(k:Int)<1:=by omega
 have q2:¬(5:Int)<(k:Int):=by omega
 clear hbad;go_wp2_with fail
 refine (nK (A:=[]) k hk1 hk5 (λb hb=>by cases hb)).mono ?_;rintro e w3 ⟨g,A3,Z3,rfl,hs3,hm3⟩;have HL3:=ab (LgA.begun HB1.out hs3 hm3);clear hs3 hm3;have HLT:=ab (tI ao m cp l (HX.out.below HL3.out.bel) hm 150 (by omega));go_wp2_with fail
 refine HLT.out.mono ?_;rintro e w4 ⟨rfl,hb4⟩;have HL4:=ab (HL3.out.below hb4);clear hb4 HLT HL3;cases hl:il l 150 with
 | false =>
  go_wp2_with fail
  go_ret
  exact ⟨rfl,HL4.out.bel⟩
 | true =>
  have HLO:=ab (pd l 150 hl);have hm150:m<=150:=by have:=HLO.out.1;have:=HLEN.out;omega
  have HOK:Hid (∀j,j<=m->GOk k j (f9 k (l.take j)).1):=ab λj hj=>BA k hk1 hk5 l HLO.out.2 j (by have:=HLEN.out;omega) (by omega);clear hl;go_wp2_with fail
  go_loopw [8,7] (λi v wr=>∃(j:Nat) (A Z:List Nat),j<=m/\i = .int .i64 (j:Int)/\LgA w wr A Z g k (f9 k (l.take j)).1 (f9 k (l.take j)).2/\ImmL wr A v (f9 k (l.take j)).1.long) (λi _ _=>m - (intOf i).toNat)
  case atStart=>exact ⟨0,A3,Z3,aH _,rfl,HL4.out,.inl ⟨rfl,rfl⟩⟩
  case round =>
   obtain ⟨j,A,Z,hj,rfl,hls,hlv⟩:=hrel;rename World=>wr;have q6:IntKind.i64.wrap ((j:Int)+1)=(j:Int)+1:=IntWalk.i64_in _ (by omega);by_cases hjm:j<m
   ·have hjm2:(j:Int)<(m:Int):=by omega
    obtain ⟨b,off,rfl,hat⟩:∃b off,ao=some ⟨b,off,none⟩/\∀i,i<m->AtAc w b (off+i*4) (l.getD i gU):=by
     rcases HX.out.at_ with h0 | h0
     ·omega
     ·exact h0
    have ha:=hat j hjm;obtain ⟨bo,bc,k4,hz⟩:=ha.z (A:=A) hls.age hls.bel;have hg:l.getD j gU=l[j]'(by have:=HLEN.out;omega):=by simp [List.getD,show j<l.length by have:=HLEN.out;omega]
    have hO1:=HOK.out j hj;have hO2:=HOK.out (j+1) (by omega);have HTK:Hid (l.take (j+1)=l.take j++[l.getD j gU]):=ab (by
     rw [hg,<-bf (by have:=HLEN.out;omega)])
    rw [HTK.out,lD] at hO2;have HBX:Hid ((l.getD j gU).B.length<=300):=ab (by rw [hg];exact HLO.out.2 _ (bO _));have hpre:=(hO1.act (es:=(f9 k (l.take j)).2) (by omega) (l.getD j gU) HBX.out).2;have ha2:=ha.below hls.bel;have k0:=ha2.c0;have k1:=ha2.c1;have k2:=ha2.c2;have hdo:=zU hls.gy hO1.b hO1.nodone (by omega) (by omega) (l.getD j gU) bo bc hz (by have:=HBX.out;omega) ha.p1.1 ha.p1.2 hO2.nodone;have HE:Hid (f9 k (l.take (j+1))=(((f9 k (l.take j)).1.actG k (f9 k (l.take j)).2 (l.getD j gU)).2.1,((f9 k (l.take j)).1.actG k (f9 k (l.take j)).2 (l.getD j gU)).2.2)):=ab (by rw [HTK.out,lD]);generalize hS2:((f9 k (l.take j)).1.actG k (f9 k (l.take j)).2 (l.getD j gU)).2.1=S2 at *;generalize hE2:((f9 k (l.take j)).1.actG k (f9 k (l.take j)).2 (l.getD j gU)).2.2=E2 at *;generalize hb2:((f9 k (l.take j)).1.actG k (f9 k (l.take j)).2 (l.getD j gU)).1=b2 at *;generalize f9 k (l.take j)=p1 at *;obtain ⟨S1,E1⟩:=p1;simp only at hls hlv hO1 hpre hdo;have HLS:=ab hls;have HLV:=ab hlv;have HO1:=ab hO1;have HO2:=ab hO2;have HPR:=ab hpre;have HDO:=ab hdo;obtain ⟨lao,lc,rfl,hrl⟩:=hlv.reads;clear ha ha2 hat hg hz hO1 hO2 hpre hdo hls hlv hS2 hE2 hb2 hrl;generalize l.getD j gU=x at *;obtain ⟨o,N,K,B⟩:=x;simp only at k0 k1 k2 k4 HDO;generalize B.length=bl at *;go_wp2_with fail
    refine HDO.out.mono ?_;rintro e w5 ⟨rfl,A5,Z5,hg5,hm5⟩;have HL5:=ab (HLS.out.mv hg5 hm5);have HV5:=ab (HLV.out.mv HLS.out.gy.zA hm5);have HLG:=ab (CF hg5 HO2.out.l);clear hg5 hm5 k0 k1 k2 k4 HDO HLS HLV;go_wp2_with fail
    refine HLG.out.mono ?_;rintro e w6 ⟨v6,rfl,hv6,hb6⟩;have HL6:=ab (HL5.out.below hb6);have HV6:=ab hv6;have hv5:=HV5.out.below hb6;obtain ⟨xo,xc,rfl,hr6⟩:=hv6.reads;obtain ⟨lo2,lc2,e9,hr5⟩:=hv5.reads;cases e9;have HBG:=ab (kE hr5 hr6 rfl rfl HPR.out (by have:=HO1.out.l.len;omega));have HU2:=ab (HO2.out.b.upok HO2.out.nodone);clear hv6 hb6 hv5 hr6 hr5 HLG HL5 HV5;generalize hx1:S1.long.length=x1 at *;generalize hx2:S2.long.length=x2 at *;have HX2:=ab hx2;clear hx1 hx2;go_wp2_with fail
    refine HBG.out.mono ?_;rintro e w7 ⟨rfl,hb7⟩;have HL7:=ab (HL6.out.below hb7);have HV7:=ab (HV6.out.below hb7);clear hb7 HL6 HV6 HBG;go_wp2_with fail
    go_loopw [10] (λi w8=>∃(q:Nat),q<=k/\i = .int .i64 (q:Int)/\LgA w w8 A5 Z5 g k S2 E2/\ImmL w8 A5 (.slice xo x2 xc) S2.long) (λi _=>k - (intOf i).toNat)
    case atStart=>exact ⟨0,aH _,rfl,HL7.out,HV7.out⟩
    case round =>
     obtain ⟨q,hq,rfl,hl8,hv8⟩:=hrel;rename World=>w8;have q9:IntKind.i64.wrap ((q:Int)+1)=(q:Int)+1:=IntWalk.i64_in _ (by omega);have HL8:=ab hl8;have HV8:=ab hv8;by_cases hqk:q<k
     ·have hqk2:(q:Int)<(k:Int):=by omega
      have HAG:=ab (lf hl8.gy HU2.out q hqk);have HTP:Hid (S2.toldG q <+: S2.long/\(S2.toldG q).length<=1000000):=ab (by
       unfold Mn.toldG;split
       ·rename_i hu;have h9:=HO2.out.pre hqk hu;exact ⟨h9,by have:=h9.length_le;have:=HO2.out.l.len;omega⟩
       ·exact ⟨List.nil_prefix,by simp⟩)
      have HTD:Hid ((S2.at q).up=false->S2.toldG q=[]):=ab λh9=>by unfold Mn.toldG;rw [h9];rfl
      clear hl8 hv8;generalize S2.toldG q=tq at *;generalize htl:tq.length=tl at *;have HTL:=ab htl;clear htl;go_wp2_with fail
      refine HAG.out.mono ?_;rintro e w9 ⟨ao9,c9,rfl,hr9,hg9,hm9⟩;have HL9:=ab (HL8.out.mv hg9 hm9);have hv9:=HV8.out.mv HL8.out.gy.zA hm9;have HV9:=ab hv9;obtain ⟨xo9,xc9,e9,hrx⟩:=hv9.reads;rw [HX2.out] at e9;cases e9;have HBG:=ab (kE hr9 hrx HTL.out HX2.out HTP.out.1 (by have:=HTP.out.2;omega));clear hr9 hg9 hm9 hv9 hrx HAG HL8 HV8;go_wp2_with fail
      refine HBG.out.mono ?_;rintro e w10 ⟨rfl,hb10⟩;have HL10:=ab (HL9.out.below hb10);have HV10:=ab (HV9.out.below hb10);have HUP:=ab (Ds HL10.out.gy HU2.out q hqk);clear hb10 HBG HL9 HV9;go_wp2_with fail
      refine HUP.out.mono ?_;rintro e w11 ⟨rfl,hg11,hm11⟩;have HL11:=ab (HL10.out.mv hg11 hm11);have HV11:=ab (HV10.out.mv HL10.out.gy.zA hm11);clear hg11 hm11 HUP HL10 HV10;cases hu:(S2.at q).up with
      | true =>
       go_wp2_with fail
       go_roundw
       case rel=>exact ⟨q+1,by omega,by simp,HL11.out,HV11.out⟩
       case measure=>simp [intOf];omega
      | false =>
       have HAG2:=ab (lf HL11.out.gy HU2.out q hqk);have HT0:Hid (S2.toldG q=[]):=ab (by unfold Mn.toldG;rw [hu];rfl);rw [HT0.out] at HAG2;clear hu;go_wp2_with fail
       refine HAG2.out.mono ?_;rintro e w12 ⟨ao12,c12,rfl,hr12,hg12,hm12⟩;have HL12:=ab (HL11.out.mv hg12 hm12);have HV12:=ab (HV11.out.mv HL11.out.gy.zA hm12);clear hr12 hg12 hm12 HAG2;go_wp2_with fail
       go_roundw
       case rel=>exact ⟨q+1,by omega,by simp,HL12.out,HV12.out⟩
       case measure=>simp [intOf];omega
     ·obtain rfl:q=k:=by omega
      have HF:Hid (LgA w w8 A5 Z5 g q (f9 q (l.take (j+1))).1 (f9 q (l.take (j+1))).2/\ImmL w8 A5 (.slice xo x2 xc) (f9 q (l.take (j+1))).1.long):=ab (by rw [HE.out];exact ⟨HL8.out,HV8.out⟩);clear hl8 hv8;go_wp2_with fail
      go_roundw
      case rel=>exact ⟨j+1,A5,Z5,by omega,by simp,HF.out.1,HF.out.2⟩
      case measure=>simp [intOf];omega
   ·obtain rfl:j=m:=by omega
    have HF:=ab hls.bel;clear hls hlv;go_wp2_with fail
    go_ret
    exact ⟨rfl,HF.out⟩
theorem B8 (S:Mn) (n i:Nat) (h:i<n) (K:Int) (B:List UInt8):S.actG n [] ⟨4,i,K,B⟩=((S.at i).up,S.crashC i K,[]):=by
 unfold Mn.actG;simp only [tQ n i h];rfl
theorem B7 (S:Mn) (n i:Nat) (h:i<n) (K:Int) (B:List UInt8):S.actG n [] ⟨5,i,K,B⟩=(!(S.at i).up,S.back n i,[]):=by
 unfold Mn.actG;simp only [tQ n i h];rfl
structure ChgW (n g:Nat) (rec:List UInt8) (keep:Int) (k m:Nat) (S0 S1 S2 S3 S4 S5 S6:Mn):Prop where
 ne:m≠k
 ld:∀w A Z,Gy w A Z g n S0 []->Calls Tryz.prog 15 #[.pointer (some ⟨g,0,none⟩)] w λe w'=>e = .returned (.tuple #[.int .i64 (k:Int),.bool true])/\GyP w w' A Z g n S0 []
 gv:∀w A Z ao cp,Gy w A Z g n S0 []->ImmZ w A (.slice ao rec.length cp) rec->Calls Tryz.prog 9 #[.pointer (some ⟨g,0,none⟩),.agg #[.int .i64 8,.int .i64 (k:Int),.int .i64 0,.slice ao rec.length cp]] w λe w'=>e = .returned (.bool true)/\GyP w w' A Z g n S1 []
 c1:∀w A Z,Gy w A Z g n S1 []->Calls Tryz.prog 14 #[.pointer (some ⟨g,0,none⟩),.int .i64 10] w λe w'=>e = .returned (.tuple #[])/\GyP w w' A Z g n S2 []
 cr:∀w A Z,Gy w A Z g n S2 []->Calls Tryz.prog 9 #[.pointer (some ⟨g,0,none⟩),.agg #[.int .i64 4,.int .i64 (k:Int),.int .i64 keep,.slice none 0 0]] w λe w'=>e = .returned (.bool true)/\GyP w w' A Z g n S3 []
 c3:∀w A Z,Gy w A Z g n S3 []->Calls Tryz.prog 14 #[.pointer (some ⟨g,0,none⟩),.int .i64 60] w λe w'=>e = .returned (.tuple #[])/\GyP w w' A Z g n S4 []
 ld2:∀w A Z,Gy w A Z g n S4 []->Calls Tryz.prog 15 #[.pointer (some ⟨g,0,none⟩)] w λe w'=>e = .returned (.tuple #[.int .i64 (m:Int),.bool true])/\GyP w w' A Z g n S4 []
 bk:∀w A Z,Gy w A Z g n S4 []->Calls Tryz.prog 9 #[.pointer (some ⟨g,0,none⟩),.agg #[.int .i64 5,.int .i64 (k:Int),.int .i64 0,.slice none 0 0]] w λe w'=>e = .returned (.bool true)/\GyP w w' A Z g n S5 []
 c5:∀w A Z,Gy w A Z g n S5 []->Calls Tryz.prog 14 #[.pointer (some ⟨g,0,none⟩),.int .i64 60] w λe w'=>e = .returned (.tuple #[])/\GyP w w' A Z g n S6 []
theorem Dc {n cl lv:Nat} (g:Nat) (h3:3<=n) (h5:n<=5) (f:Nat->List UInt8) (hz:∀x,X.zG x=(f x).isEmpty) (hf:∀x,(f x).length<=300) (keep:Int) (hk1 : -9223372036854775808<=keep) (hk2:keep<=9223372036854775807) {j:Nat} (hj:j<6) {S:Mn} (h:GRel f S (X.fY n j)) (hb:BInv n cl lv S) (hcl:cl+10*n+60*n+60*n<=900000) (hlv:lv+1<=100000) :
  ∃k m S1 S2 S3 S4 S5 S6,ChgW n g (f (j+1)) keep k m S S1 S2 S3 S4 S5 S6/\GRel f S6 (X.fY n (j+1))/\BInv n (cl+10*n+60*n+60*n) (lv+1) S6:=by
 obtain ⟨k,m,o,d⟩:=De h3 h5 f hz hf keep hj h hb;have b1:=hb.submC cY k o.kn (f (j+1));have b2:=b1.calmC (ct:=cY) 10;have b3:=b2.crashC k o.kn keep;have b4:=b3.calmC (ct:=cY) 60;have b5:=b4.back k o.kn;have b6:=b5.calmC (ct:=cY) 60;have hrec:=hf (j+1);obtain ⟨d0,d1,c1,d2,d3,c3,d4,d5,c5⟩:=d;obtain ⟨kn,mn,lead,up,ok,up2,lead2,ne,dn,rel⟩:=o;generalize f (j+1)=rec at *;generalize hS1:S.submC n cY k rec=S1 at *;generalize hS2:Mn.calmC n cY 10 S1=S2 at *;generalize hS3:S2.crashC k keep=S3 at *;generalize hS4:Mn.calmC n cY 60 S3=S4 at *;generalize hS5:S4.back n k=S5 at *;generalize hS6:Mn.calmC n cY 60 S5=S6 at *;refine ⟨k,m,S1,S2,S3,S4,S5,S6,⟨ne,λw A Z hg=>?_,λw A Z ao cp hg hi=>?_,λw A Z hg=>?_,λw A Z hg=>?_,λw A Z hg=>?_,λw A Z hg=>?_,λw A Z hg=>?_,λw A Z hg=>?_⟩,rel,b6⟩
 ·have:=nQ hg hb d0;rw [lead] at this;exact this
 ·have:=zU hg hb d0 (by omega) (by omega) ⟨8,k,0,rec⟩ ao cp hi (show rec.length<=1000000 by omega) (show (-9223372036854775808:Int)<=0 by decide) (show (0:Int)<=9223372036854775807 by decide) (by rw [uX S n k kn,hS1];exact d1);rw [uX S n k kn,hS1,up,ok] at this;exact this
 ·have:=lU hg b1 10 (by omega) (by omega) c1;rw [hS2] at this;exact this
 ·have:=zU hg b2 d2 (by omega) (by omega) ⟨4,k,keep,[]⟩ none 0 (.inl rfl) (show ([]:List UInt8).length<=1000000 by decide) hk1 hk2 (by rw [B8 S2 n k kn,hS3];exact d3);rw [B8 S2 n k kn,hS3,up2] at this;exact this
 ·have:=lU hg b3 60 (by omega) (by omega) c3;rw [hS4] at this;exact this
 ·have:=nQ hg b4 d4;rw [lead2] at this;exact this
 ·have:=zU hg b4 d4 (by omega) (by omega) ⟨5,k,0,[]⟩ none 0 (.inl rfl) (show ([]:List UInt8).length<=1000000 by decide) (show (-9223372036854775808:Int)<=0 by decide) (show (0:Int)<=9223372036854775807 by decide) (by rw [B7 S4 n k kn,hS5];exact d5);rw [B7 S4 n k kn,hS5,dn] at this;exact this
 ·have:=lU hg b5 60 (by omega) (by omega) c5;rw [hS6] at this;exact this
def nk (R:List (List UInt8)) (x:Nat):List UInt8:=if x=0 then [] else if 1<=(R.getD (x - 1) []).length/\(R.getD (x - 1) []).length<=300 then R.getD (x - 1) [] else [0]
theorem nh (R:List (List UInt8)) (x:Nat):(nk R x).length<=300:=by
 unfold nk;split
 ·simp
 ·split
  ·rename_i h;exact h.2
  ·simp
theorem pT (R:List (List UInt8)) (x:Nat):X.zG x=(nk R x).isEmpty:=by
 unfold X.zG nk;by_cases h:x=0
 ·subst h;rfl
 ·rw [aw h];have e:(x==0)=false:=by simpa using h
  rw [e];split
  ·rename_i h1;generalize R.getD (x - 1) []=r at *;cases r with
   | nil=>simp at h1
   | cons a l=>rfl
  ·rfl
theorem uv {R:List (List UInt8)} {j:Nat} (h1:1<=(R.getD j []).length) (h2:(R.getD j []).length<=300):nk R (j+1)=R.getD j []:=by
 unfold nk;rw [aw (by omega),Nat.add_sub_cancel,aA ⟨h1,h2⟩]
theorem yy {R:List (List UInt8)} (h:∀i,i<R.length->1<=(R.getD i []).length/\(R.getD i []).length<=300):((List.range R.length).map λx=>nk R (x+1))=R:=by
 apply List.ext_getElem
 ·simp
 ·intro i h1 h2;rw [xq,List.getElem_range,uv (h i h2).1 (h i h2).2];simp [List.getD,h2]
end Go.Proofs.YtnhefallmioefaaGreat
