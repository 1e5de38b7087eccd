/- What the law leans on. No condition. -/
import Derived.Test.YtnhefallmioefaaGreatW0
import Derived.Shelf.RegionOpenPlain
import Derived.Deep.OwnRows
import Derived.Laws.IdiomStrings
import Derived.Test.YtnhefallmioefaaGreatW1
import Derived.Test.YtnhefallmioefaaGreatW4
import Derived.Test.YtnhefallmioefaaGreatW2
import Derived.Test.YtnhefallmioefaaGreatW3
set_option maxHeartbeats 8000000
set_option linter.unusedVariables false
set_option linter.unusedSimpArgs false
namespace Go.Proofs.YtnhefallmioefaaGreat
open Go.RowKit Go.ChangeMaps Go.WideMaps Go.Maps
set_option maxRecDepth 20000
def QI (w:World) (g n cap:Nat) (xs:List Value):Prop:=xs.length=n*5/\∃cur,w.heap[g]? = some (.cells cur 83 (0,0))/\n<=cap/\cap<=9223372036854775807/\cap*5<=cur.size/\cur.toList.take (n*5)=xs
theorem QI.cellAt {w:World} {g n cap:Nat} {xs:List Value} (h:QI w g n cap xs) (o:Nat) (ho:o<n*5):w.cell? ⟨g,o,none⟩=xs[o]? := by
 obtain ⟨h1,cur,hh,hn,hm,hs,ht⟩:=h;rw [ap hh,<-ht,List.getElem?_take_of_lt ho];simp
theorem QI.frozenAt {w:World} {g n cap:Nat} {xs:List Value} (h:QI w g n cap xs) {o:Nat}:w.frozen? ⟨g,o,none⟩=false:=by
 obtain ⟨h1,cur,hh,_⟩:=h;exact aU hh o
theorem QI.stored {w:World} {g n cap:Nat} {xs:List Value} (h:QI w g n cap xs) (o:Nat) (v:Value):QI (w.setCell ⟨g,o,none⟩ v) g n cap (xs.set o v):=by
 obtain ⟨h1,cur,hh,hn,hm,hs,ht⟩:=h;refine ⟨by simpa using h1,_,be hh o v,hn,hm,by simpa using hs,?_⟩;rw [<-ht,Array.toList_setIfInBounds,List.take_set]
theorem AE {w:World} {g cap n i:Nat} {xs:List Value} (h:QI w g n cap xs) (hi:i<=n):QI w g i cap (xs.take (i*5)):=by
 obtain ⟨h1,cur,hh,hn,hm,hs,ht⟩:=h;refine ⟨by rw [aQ,h1];omega,cur,hh,by omega,hm,hs,?_⟩;rw [<-ht,dv,bT az]
theorem AF {g cap n:Nat} (vs:List Value):∀(o:Nat) (w:World) (xs:List Value),QI w g n cap xs ->
  ∃ys,ys.length=xs.length/\ys.take o=xs.take o/\QI (w.setCells g o vs) g n cap ys:=by
 induction vs with
 | nil=>intro o w xs h;exact ⟨xs,rfl,rfl,h⟩
 | cons v vs ih =>
  intro o w xs h;obtain ⟨ys,h1,h2,h3⟩:=ih (o+1) _ _ (h.stored o v);refine ⟨ys,by simpa using h1,?_,h3⟩;have:=congrArg (λl=>l.take o) h2;simpa [dv,List.take_set_of_le] using this
theorem qQ {S:List Nat} {a:World} (g:Nat) (hg:g∈S) (vs:List Value):∀(o:Nat) (w:World),Only S a w->Only S a (w.setCells g o vs):=by
 induction vs with
 | nil=>intro o w h;exact h
 | cons v vs ih=>intro o w h;exact ih (o+1) _ (h.setCell hg v)
theorem se {P:Program} (w:World) (t e ty:TypeId) (z:Value) (ht:P.underlying t=some (.slice e)) (hv:∀w,(zeroValue e).run P w = .ok z w) (b o n c:Nat) (hn:0<n) (zs:List Value) (hzs:(Builtin.zeroCells z.cells n).toList=zs)
  (h1:∀v∈zs,v.oneCell'=true) (hc:∀j,j<zs.length->(w.cell? ⟨b,o+j,none⟩).isSome=true) (hf:∀j,j<zs.length->w.frozen? ⟨b,o+j,none⟩=false) :
  (Builtin.clear_ #[t] ty #[.slice (some ⟨b,o,none⟩) n c]).run P w = .ok (.tuple #[]) (w.setCells b o zs):=by
 have hst:=run_storeCells_cells (P:=P) b o zs 0 w (by simpa using hc) (by simpa using hf) h1;obtain ⟨m,rfl⟩:∃m,n=m+1:=⟨n - 1,by omega⟩
 simp [Builtin.clear_,run_underlying ht,hv,hzs,hst]
theorem Gz {g cap n:Nat} (vs:List Value):∀(o:Nat) (w:World) (xs:List Value),QI w g n cap xs->o+vs.length<=xs.length ->
  QI (w.setCells g o vs) g n cap (xs.take o++vs++xs.drop (o+vs.length)):=by
 induction vs with
 | nil=>intro o w xs h _;simpa [World.setCells] using h
 | cons v vs ih =>
  intro o w xs h hl;simp only [aX] at hl;have:=ih (o+1) _ _ (h.stored o v) (by rw [cY];omega);have e1:(xs.set o v).take (o+1)=xs.take o++[v]:=by
   grind [gU,cY,List.take_set_of_le]
  have e2:(xs.set o v).drop (o+1+vs.length)=xs.drop (o+(v::vs).length):=by
   grind [List.drop_set_of_lt,aX]
  rw [e1,e2,bS (xs.take o),List.singleton_append] at this;exact this
theorem AW {S:List Nat} {w w0 w':World} (h:Only S w w0) (hh:w'.heap=w0.heap) (ho:w'.os=w0.os) (ht:w'.tape=w0.tape) (hp:w'.output=w0.output):Only S w w' :=
 ⟨ho.trans h.os,ht.trans h.tape,hp.trans h.output,by rw [hh];exact h.size,λk hk hs=>by rw [hh];exact h.block k hk hs⟩
theorem o0 (m:List SZ) (i:Nat):(eL m).take (i*5)=eL (m.take i):=by
 induction m generalizing i with
 | nil=>simp [eL]
 | cons s l ih =>
  cases i with
  | zero=>simp [eL]
  | succ k =>
   rw [List.take_succ_cons,show eL (s::l)=et s++eL l from rfl,show eL (s::l.take k)=et s++eL (l.take k) from rfl,<-ih k,List.take_append];rw [bE (by simp [et];omega),show (k+1)*5 - (et s).length=k*5 by simp [et];omega]
theorem sE (m:List SZ) (i:Nat):(eL m).drop (i*5)=eL (m.drop i):=by
 have h1:eL m=eL (m.take i)++eL (m.drop i):=by rw [<-iE,eI]
 have h2:=o0 m i;have h3:eL m=(eL m).take (i*5)++(eL m).drop (i*5):=(eI _ _).symm;rw [h2] at h3;exact List.append_cancel_left (h3.symm.trans h1)
theorem Dl {w:World} {g cap:Nat} {l:List SZ} {n:Nat} (h:QI w g n cap (eL l)) :
  g<w.heap.size/\n<=cap/\cap<=9223372036854775807/\l.length=n:=by
 obtain ⟨h1,cur,hh,hn,hm,hs,ht⟩:=h;rw [la] at h1;exact ⟨(jN.1 hh).1,hn,hm,by omega⟩
theorem Dm (l:List SZ) (h:∀x∈l,x.v.oneCell'=true/\x.u.oneCell'=true):∀u∈eL l,u.oneCell'=true:=by
 intro u hu;simp only [eL,Ck] at hu;obtain ⟨s,hs,hu⟩:=hu;simp only [et,cA,ki,or_false] at hu;rcases hu with rfl | rfl | rfl | rfl | rfl
 ·rfl
 ·rfl
 ·rfl
 ·exact (h s hs).1
 ·exact (h s hs).2
theorem J0 (w:World):(zeroValue 83).run Tryz.prog w = .ok (.agg #[.int .i64 0,.int .i64 0,.int .i64 0,.slice none 0 0,.slice none 0 0]) w:=dW
def iV (n:Nat):List Value:=(Builtin.zeroCells (Value.agg #[.int .i64 0,.int .i64 0,.int .i64 0,.slice none 0 0,.slice none 0 0]).cells n).toList
theorem uT (n:Nat):(iV n).length=n*5:=by simp [iV,Builtin.zeroCells,Value.cells]
theorem uR (n:Nat):∀v∈iV n,v.oneCell'=true:=by
 intro v hv;have hc:(Value.agg #[.int .i64 0,.int .i64 0,.int .i64 0,.slice none 0 0,.slice none 0 0]).cells=#[.int .i64 0,.int .i64 0,.int .i64 0,.slice none 0 0,.slice none 0 0]:=by simp [Value.cells]
 rw [iV,hc] at hv;simp only [Builtin.zeroCells,Array.toList_map,d7] at hv;obtain ⟨i,_,rfl⟩:=hv;have:i % 5=0\/i % 5=1\/i % 5=2\/i % 5=3\/i % 5=4:=az;rcases this with h | h | h | h | h<;>simp [h,Value.oneCell']
theorem wW {w:World} {g cap n i:Nat} {m:List SZ} (h:QI w g n cap (eL m)) (hm:m.length=n) (hi:i<n) (ty:TypeId) (c:Nat) :
  (Builtin.clear_ #[64] ty #[.slice (some ⟨g,i*5,none⟩) (n - i) c]).run Tryz.prog w = .ok (.tuple #[]) (w.setCells g (i*5) (iV (n - i))) /\
  QI (w.setCells g (i*5) (iV (n - i))) g i cap (eL (m.take i)):=by
 constructor
 ·refine se w 64 83 ty _ Tryz.underlying64 J0 g (i*5) (n - i) c az (iV (n - i)) rfl (uR _) (λj hj=>?_) (λj hj=>h.frozenAt);rw [uT] at hj;rw [h.cellAt (i*5+j) az];rw [cf (by rw [la,hm];omega)];rfl
 ·obtain ⟨ys,h1,h2,h3⟩:=AF (iV (n - i)) (i*5) w _ h;have:=AE h3 (gc hi)
  rwa [h2,o0] at this
def ks (l:List SZ) (i:Nat):List SZ:=l.take i++l.drop (i+1)++l.drop (l.length - 1)
theorem pJ (l:List SZ) (i:Nat) (hi:i<l.length):(ks l i).length=l.length:=by
 simp [ks];omega
theorem tK (l:List SZ) (i:Nat) (hi:i<l.length):(ks l i).take (l.length - 1)=l.eraseIdx i:=by
 grind [oM,ks,List.take_left']
set_option maxRecDepth 1000000 in
theorem yP (g:Nat) (l:List SZ) (i cap:Nat) (w:World) (h:QI w g l.length cap (eL l)) (PL:∀x∈l,x.v.oneCell'=true/\x.u.oneCell'=true) (hi:i<l.length) (hl:l.length<=1000000) :
  Calls Tryz.prog 42 #[.slice (some ⟨g,0,none⟩) l.length cap,.int .i64 (i:Int),.int .i64 ((i:Int)+1)] w λe w'=>e = .returned (.slice (some ⟨g,0,none⟩) (l.length - 1) cap)/\QI w' g (l.length - 1) cap (eL (l.eraseIdx i))/\Only [g] w w':=by
 obtain ⟨i0,Q4,hz0,hz1,hz2⟩:=info_parts yv;obtain ⟨hgs,hc1,hc2,_⟩:=Dl h;obtain ⟨news,hnews⟩:∃news,news=eL (l.drop (i+1)):=⟨_,rfl⟩
 have PD:news.length=(l.length - (i+1))*5:=by rw [hnews,la];simp
 have QR:=la l;obtain ⟨A,hA,QX⟩:∃A:Addr,(if cap=i+1 then some (⟨g,0,none⟩:Addr) else some ⟨g,(i+1)*5,none⟩)=some A/\Hid (∀t u,news[t]? = some u->w.drew.cell? (A.add t)=some u):=by
  by_cases hce:cap=i+1
  ·refine ⟨⟨g,0,none⟩,by simp [hce],λt u hu=>?_⟩;have:=(kM.1 hu).1;omega
  ·refine ⟨⟨g,(i+1)*5,none⟩,by simp [hce],λt u hu=>?_⟩;have ht:=(kM.1 hu).1;rw [Addr.add_lit];have h4:w.cell? ⟨g,(i+1)*5+t,none⟩=(eL l)[(i+1)*5+t]? := h.cellAt _ az;rw [hnews,<-sE,Oe] at hu;exact h4.trans hu
 have s2:Hid (∀u∈news,u.oneCell'=true):=by rw [hnews];exact Dm _ (λx hx=>PL x (gV hx))
 have s3:Hid (∀t,t<news.length->(w.drew.cell? ⟨g,0+i*5+t,none⟩).isSome=true/\w.drew.frozen? ⟨g,0+i*5+t,none⟩=false):=by
  intro t ht;refine ⟨?_,h.frozenAt⟩;rw [cB];show (w.cell? _).isSome=true;rw [h.cellAt (i*5+t) az,cf az];rfl
 obtain ⟨W1,hW1⟩:∃W1,W1=w.drew.setCells g (0+i*5) news:=⟨_,rfl⟩
 have hrow:QI W1 g l.length cap (eL (ks l i)):=by
  have:=Gz news (0+i*5) w.drew (eL l) h az;rw [hW1];have e:eL (ks l i)=(eL l).take (0+i*5)++news++(eL l).drop (0+i*5+news.length):=by
   rw [show 0+i*5+news.length=(l.length - 1)*5 by omega,sE,cB,o0,hnews,ks,iE,iE]
  rw [e];exact this
 have Vt:Only [g] w W1:=by
  rw [hW1];exact qQ g bL _ _ _ (AW (Only.refl [g] w) rfl rfl rfl rfl)
 have Sw:=λty=>(wW hrow (pJ l i hi) (show l.length - 1<l.length by omega) ty (cap - (l.length - 1))).1;have Ro:=(wW hrow (pJ l i hi) (show l.length - 1<l.length by omega) 0 0).2;rw [tK l i hi] at Ro;have OZ:Only [g] w (W1.setCells g ((l.length - 1)*5) (iV (l.length - (l.length - 1)))):=qQ g bL _ _ _ Vt;have HF:=af Ro;have HO:=af OZ;have hW:Hid (W1=w.drew.setCells g (0+i*5) news):=hW1;have UQ:=af PD;clear Ro OZ Vt hrow hW1 hnews PD QR h;generalize hn:l.length=n at *;have k1:¬cap=n - 1:=az;have k2:(i:Int)+1=((i+1:Nat):Int):=az;have k3:n - (n - 1)=1:=az;rw [k2];rw [k3] at Sw;have hxx:((i:Int)==((i+1:Nat):Int))=false:=gD;have HN:=af hn;clear hn k2;have k5:i<=cap:=az;have k6:i+1<=cap:=az;have k7:(0:Int)<=(i:Int)+1/\(i:Int)+1<=(n:Int):=az;have mixed:Tryz.prog.follows Departure.mixedOrders=true:=dW;go_enter Tryz.func42,Tryz.ntmps42
 go_wp2_with fail
 go_region_law_o (refine step_append_room rfl (.tmp 22) (.tmp 25) 64 rfl 83 i0 5 Tryz.underlying64 Q4 hz1 g 0 i cap (by simp [Act.eval,Act.put]) A (n - (i+1)) (cap - (i+1)) news (by simp [Act.eval,Act.put]) UQ.out QX.out s2.out az s3.out ?_;rw [<-hW.out])
 have k4:i+(n - (i+1))=n - 1:=az;rw [k4];go_wp2_with fail
 go_ret
 refine ⟨rfl,?_,?_⟩
 ·have:=HF.out
  rwa [k3] at this
 ·have:=HO.out
  rwa [k3] at this
theorem LO {L:List Value} {a b c d e:Value} (h0:L[0]? = some a) (h1:L[1]? = some b) (h2:L[2]? = some c) (h3:L[3]? = some d) (h4:L[4]? = some e):L.take 5=[a,b,c,d,e]:=by
 rcases L with _ | ⟨x0,_ | ⟨x1,_ | ⟨x2,_ | ⟨x3,_ | ⟨x4,L⟩⟩⟩⟩⟩<;>simp_all
section
variable {w w':World} {A Y:List Nat} {nb mb n:Nat} {qv v:Value} {q ms:List OM} {es:Pn}
theorem Ue.rows (h:Ue w A Y v ms) (hz:uK v) (hl:0<ms.length):∃g cap ps,v = .slice (some ⟨g,0,none⟩) ms.length cap/\g∈Y/\ps.map SZ.m=ms/\(∀x∈ps,OU w A x.m x.v x.u)/\QI w g ms.length cap (eL ps)/\∃cur,w.heap[g]? = some (.cells cur 83 (0,0)):=by
 rcases h with ⟨_,rfl⟩ | ⟨g,off,c,cur,rfl,h2,h3,h4,h5,h6,h7⟩
 ·simp at hl
 ·have ho:off=0:=by have h0:off*5=0:=hz _ _ _ rfl;omega
  subst ho;have key:∀k,k<=ms.length->∃ps:List SZ,ps.map SZ.m=ms.take k/\(∀x∈ps,OU w A x.m x.v x.u)/\eL ps=cur.toList.take (k*5):=by
   intro k;induction k with
   | zero=>exact λ_=>⟨[],by simp,λx hx=>by simp at hx,by simp [eL]⟩
   | succ k ih =>
    intro hk;obtain ⟨ps,e1,e2,e3⟩:=ih az;obtain ⟨v,u,g0,g1,g2,g3,g4,g5⟩:=h7 k az;rw [cB] at g0 g1 g2 g3 g4;refine ⟨ps++[⟨ms[k],v,u⟩],?_,λx hx=>?_,?_⟩
    ·simp_all
    ·grind
    ·rw [iE,e3,Nat.add_mul,Nat.one_mul,List.take_add];congr 1;exact (LO (by simpa using g0) (by simpa using g1) (by simpa using g2) (by simpa using g3) (by simpa using g4)).symm
  obtain ⟨ps,e1,e2,e3⟩:=key ms.length (ah _);rw [bW] at e1;have hlen:ps.length=ms.length:=by rw [<-e1,aW]
  exact ⟨g,c,ps,by simp,h4,e1,e2,⟨by rw [la,hlen],cur,h5,h2,h3,by simpa using h6,e3.symm⟩,cur,h5⟩
theorem Ue.S6 {g cap:Nat} {ps:List SZ} (h:QI w g ms.length cap (eL ps)) (hg:g∈Y) (hp:ps.map SZ.m=ms) (hm:∀x∈ps,OU w A x.m x.v x.u):Ue w A Y (.slice (some ⟨g,0,none⟩) ms.length cap) ms:=by
 obtain ⟨h1,cur,hh,hn,Qb,hs,ht⟩:=h;subst hp;rw [aW] at hn ht;refine .inr ⟨g,0,cap,cur,rfl,by simpa using hn,Qb,hg,hh,by simpa using hs,λi hi=>?_⟩;have Tw:i<ps.length:=El;have hc:∀j,j<5->cur[i*5+j]? = (et ps[i])[j]? := by
  intro j hj;have:=zi ps i j Tw hj;rw [<-ht,List.getElem?_take_of_lt az] at this;rw [aL,cf Tw] at this;simpa using this
 rw [cB];refine ⟨ps[i].v,ps[i].u,?_,?_,?_,?_,?_,?_⟩
 ·have:=hc 0 az;simpa [et] using this
 ·grind [et]
 ·grind [et]
 ·grind [et]
 ·grind [et]
 ·grind
structure NtF (w w':World) (A Y:List Nat) (nb mb n:Nat) (q:List OM) (es:Pn):Prop where
 ex:∃qv,Pv w' A Y nb mb n qv q es/\∃T,Only T w w'/\∀b∈T,b∈Y/\(b=nb\/∃cur,w.heap[b]? = some (.cells cur 83 (0,0)))
theorem Pv.setqF {v':Value} {q':List OM} {T:List Nat} (h:Pv w A Y nb mb n qv q es) (hq:Ue w' A Y v' q') (ZL:Only T w w') (hT:∀b∈T,b∈Y/\∃cur,w.heap[b]? = some (.cells cur 83 (0,0))) (hz:uK v'):NtF w (w'.setCell ⟨nb,2,none⟩ v') A Y nb mb n q' es:=by
 have hne:nb∉T:=λhm=>by
  grind [eD,h.RL]
 have hmT:mb∉T:=λhm=>JI;have hc1:=ZL.keeps h.RL hne;have P8:Only [nb] w' (w'.setCell ⟨nb,2,none⟩ v'):=(Only.refl _ _).setCell bL _;have hc2:(w'.setCell ⟨nb,2,none⟩ v').heap[nb]? = some (eD (n:Int) 2000 v' mb):=by
  rw [be hc1];rfl
 have TS:mb≠nb:=λe=>Ji;refine ⟨v',⟨hc2,(h.cut.only ZL hmT).only P8 (by simpa using TS),hq.keep P8 (λb hb=>by rw [aj.1 hb];exact h.yA _ h.nY) (λb hb cur Sv hm=>?_) (Ext.refl _ _) (λb hb=>hb),hz,h.nY,h.mY,h.yA,λb hb=>aK (h.alt b hb) (by simpa using ZL.size)⟩,
  nb::T,(ZL.mono (λb hb=>aM _ hb)).setCell (p:=⟨nb,2,none⟩) bL v',λb hb=>?_⟩
 ·grind [aj.1,eD]
 ·grind [h.nY]
theorem Ue.less {A':List Nat} (h:Ue w A' Y v ms) (hs:∀b∈A,b∈A'):Ue w A Y v ms:=by
 rcases h with h | ⟨g,off,c,cur,h1,h2,h3,h4,h5,h6,h7⟩
 ·exact .inl h
 ·refine .inr ⟨g,off,c,cur,h1,h2,h3,h4,h5,h6,λi hi=>?_⟩;obtain ⟨v,u,k1,k2,k3,k4,k5,k6⟩:=h7 i hi;exact ⟨v,u,k1,k2,k3,k4,k5,k6.less hs⟩
theorem Pv.less {A':List Nat} (h:Pv w A' Y nb mb n qv q es) (hs:∀b∈A,b∈A') (hy:∀b∈Y,b∈A):Pv w A Y nb mb n qv q es :=
 ⟨h.RL,h.cut,h.q.less hs,h.z,h.nY,h.mY,hy,λb hb=>h.alt b (hs b hb)⟩
theorem Bt (ps:List SZ) (k:Nat):(ps.eraseIdx k).map SZ.m=(ps.map SZ.m).eraseIdx k:=by
 rw [oM,oM];simp
theorem x9 (h:Pv w A Y nb mb n qv q es) (x:Int) (hx:(decide (0<=x)&&decide (x<(q.length:Int)))=false) :
  Calls Tryz.prog 21 #[.pointer (some ⟨nb,0,none⟩),.int .i64 x] w λe w'=>e = .returned (.bool false)/\Sz w w' A Y nb n mb q es:=by
 obtain ⟨ao,c,_,H1⟩:=h.shape;have HH:=af (jY H1 x);rw [hx] at HH;have HN:=af h;go_enter Tryz.func21,Tryz.ntmps21
 go_wp2_with fail
 refine HH.out.mono ?_;rintro e w1 ⟨rfl,rfl⟩;go_wp2_with fail
 go_ret
 exact ⟨rfl,HN.out.ntp (aG _ _)⟩
theorem qV (h:Pv w A Y nb mb n qv q es) (k:Nat) (hk:k<q.length) (hl:q.length<=1000000) :
  Calls Tryz.prog 21 #[.pointer (some ⟨nb,0,none⟩),.int .i64 (k:Int)] w λe w'=>e = .returned (.bool true)/\NtF w w' A Y nb mb n (q.eraseIdx k) es:=by
 obtain ⟨g,cap,ps,rfl,hgY,hps,hpm,hrow,cur,Sv⟩:=h.q.rows h.z az;have H1:=h.RL;have HH:=af (jY H1 (k:Int));rw [aO az,aO az,z9] at HH;have hlen:ps.length=q.length:=by rw [<-hps,aW]
 have HD:=af (yP g ps k cap w (by rw [hlen];exact hrow) (λx hx=>(hpm x hx).one) az az);rw [hlen] at HD;have hne:g≠nb:=λe=>by rw [e,H1] at Sv;simp [eD] at Sv
 have hc0:w.cell? ⟨nb,2,none⟩=some (.slice (some ⟨g,0,none⟩) q.length cap):=Ep;have HN:=af h;have HF:=af H1;have hcur':∃cur,w.heap[g]? = some (.cells cur 83 (0,0)):=⟨cur,Sv⟩
 have HX:=af (And.intro hgY (And.intro hps (And.intro hpm hcur')));have HK:=af hk;generalize Tb:q.length=m at *;have UQ:=af Tb;clear Tb;go_enter Tryz.func21,Tryz.ntmps21
 go_wp2_with fail
 refine HH.out.mono ?_;rintro e w1 ⟨rfl,rfl⟩;go_wp2_with fail
 refine HD.out.mono ?_;rintro e w2 ⟨rfl,hrow,ho⟩;have HROW:=af hrow;have HO:=af ho;have Yg:=ho.keeps HF.out (by simpa using λe=>hne e.symm);have hc32:w2.cell? ⟨nb,2,none⟩=some (.slice (some ⟨g,0,none⟩) m cap):=by rw [ap Yg];rfl
 have hf32:=aU Yg 2;go_wp2_with fail
 go_ret
 obtain ⟨hgY,hps,hpm,cur,Sv⟩:=HX.out;have hko:=HK.out;have hle:(q.eraseIdx k).length=m - 1:=by rw [List.length_eraseIdx_of_lt (by rw [UQ.out];exact hko),UQ.out]
 refine ⟨rfl,HN.out.setqF ?_ HO.out (λb hb=>by rw [aj.1 hb];exact ⟨hgY,cur,Sv⟩) (λp n c e=>by cases e;rfl)⟩;rw [<-hle];refine Ue.S6 (ps:=ps.eraseIdx k) (by rw [hle];exact HROW.out) hgY (by rw [Bt,hps]) (λx hx=>?_);exact (hpm x ((List.eraseIdx_sublist ..).subset hx)).step HO.out (λb hb=>by rw [aj.1 hb];exact HN.out.yA _ hgY) (Ext.refl _ _)
end
def pc (w:World) (H:Nat) (f t k:Int) (v u:Value):World :=
 ((((w.setCell ⟨H,0,none⟩ (.int .i64 f)).setCell ⟨H,1,none⟩ (.int .i64 t)).setCell ⟨H,2,none⟩ (.int .i64 k)).setCell ⟨H,3,none⟩ v).setCell ⟨H,4,none⟩ u
theorem il (w:World) (H:Nat) (f t k:Int) (v u:Value):Only [H] w (pc w H f t k v u) :=
 (((((Only.refl _ _).setCell bL _).setCell bL _).setCell bL _).setCell bL _).setCell bL _
theorem sG {w:World} {H:Nat} (f t k:Int) (v u:Value) (h:w.heap[H]? = some dt):(pc w H f t k v u).heap[H]? = some (.cells #[.int .i64 f,.int .i64 t,.int .i64 k,v,u] 83 (0,0)):=by
 unfold dt at h;have:=be (be (be (be (be h 0 (.int .i64 f)) 1 (.int .i64 t)) 2 (.int .i64 k)) 3 v) 4 u;simpa [pc] using this
def ph (m:OM) (v u:Value):Obj:=.cells #[.int .i64 m.OD,.int .i64 m.dst,.int .i64 m.kind,v,u] 83
theorem jl {w:World} {X:Nat} {m:OM} {v u:Value} (h:w.heap[X]? = some (ph m v u)):w.cell? ⟨X,0,none⟩=some (.int .i64 m.OD)/\w.cell? ⟨X,1,none⟩=some (.int .i64 m.dst)/\w.cell? ⟨X,2,none⟩=some (.int .i64 m.kind)/\w.cell? ⟨X,3,none⟩=some v/\w.cell? ⟨X,4,none⟩=some u:=by
 unfold ph at h;refine ⟨?_,?_,?_,?_,?_⟩;all_goals rw [ap h];rfl
theorem OU.shapes {w:World} {A:List Nat} {m:OM} {v u:Value} (h:OU w A m v u):(∃a c,v = .slice a m.N.length c)/\∃a b c,u = .slice a b c:=by
 obtain ⟨a,c,e,_⟩:=id h.n;refine ⟨⟨a,c,e⟩,?_⟩;rcases h.b with ⟨rfl,_⟩ | ⟨_,_,_,rfl,_⟩
 ·exact ⟨_,_,_,rfl⟩
 ·exact ⟨_,_,_,rfl⟩
section
variable {w w':World} {A Y:List Nat} {nb mb n:Nat} {qv v:Value} {q ms:List OM} {es:Pn}
theorem qS (h:Pv w A Y nb mb n qv q es) (k:Nat) (hk:k<q.length) (hl:q.length<=1000000) (hm:jt q[k]) :
  Calls Tryz.prog 39 #[.pointer (some ⟨nb,0,none⟩),.int .i64 (k:Int)] w λe w'=>∃v u,e = .returned (.tuple #[en q[k] v u,.bool true])/\OU w' A q[k] v u/\NtF w w' A Y nb mb n (q.eraseIdx k) es:=by
 have hbz:Below w.heap.size w (w.alloc dt):=(aG _ _).alloc (ah _) dt;have Sk:Pv (w.alloc dt) (A++[w.heap.size]) Y nb mb n qv q es:=h.keep (Only.OL hbz []) (λb hb=>by cases hb) (λb _=>by simp) (zV w A) (λb hb=>aI _ hb) (λb hb=>by
  rcases aA.1 hb with g | g
  ·exact aK (h.alt b g) bL
  ·rw [aj.1 g];simp)
 have HA:=af (DT Sk k hk hl hm);have HN0:=af h;have Ri:=af Sk;have HZ:=af (aV w dt);unfold dt at HA;change Hid (Calls Tryz.prog 69 _ _ λe w'=>∃v u,e = .returned (.tuple #[en q[k] v u,.bool true])/\OU w' _ q[k] v u/\_) at HA;have HYl:Hid (∀b∈Y,b<w.heap.size):=af (λb hb=>h.alt b (h.yA b hb));generalize q[k]=x at *;unfold en at HA ⊢;clear h Sk hbz hm;go_enter Tryz.func39,Tryz.ntmps39
 go_wp2_with fail
 refine HA.out.mono ?_;rintro e w1 ⟨v,u,rfl,hown,hb⟩;obtain ⟨⟨av,cv,rfl⟩,Wi,bv,cw,rfl⟩:=hown.shapes;have hb':Below (w.alloc dt).heap.size (w.alloc dt) w1:=hb;have hR1:w1.heap[w.heap.size]? = some dt:=bA hb' bL HZ.out;have hs1:w.heap.size+1<=w1.heap.size:=by have:=hb'.size;simpa using this
 have Wc:=Ri.out.below hb';have Vp:=af (((aG _ w).alloc (ah _) dt).trans (hb'.mono bL));have HV:=af hown;clear hown hb hb';generalize hRR:w.heap.size=R at *;have HRR:=af hRR;clear hRR;obtain ⟨O,hO⟩:∃O,O=ph x (.slice av x.N.length cv) (.slice Wi bv cw):=⟨_,rfl⟩
 have Ye:=Wc.below ((aG _ _).alloc (ah _) O);have HX:=af (aV w1 O);have XL:=af (bD hR1 O);have hsz2:(w1.alloc O).heap.size=w1.heap.size+1:=bL;have O5:=af (Vp.out.alloc (by have:=HRR.out;omega) O);have HV2:=af (HV.out.below ((aG _ _).alloc (ah _) O));have HL:=af (λw' (hb:Below (w1.alloc O).heap.size (w1.alloc O) w')=>qV (Ye.below hb) k hk hl);have Xi:=af Ye;subst hO;obtain ⟨x0,x1,x2,x3,x4⟩:=jl HX.out;obtain ⟨⟨z0,z1,z2,z3,z4⟩,f0,f1,f2,f3,f4⟩:=iB XL.out;have hXR:w1.heap.size≠R:=az;have TI:∀j,j=w1.heap.size\/j=R->j∉Y:=by
  intro j hj hm;have:=HYl.out j hm;omega
 have HKP:=af TI;clear Wc Ye hR1 TI;unfold ph at x0 x1 x2 x3 x4 z0 z1 z2 z3 z4 f0 f1 f2 f3 f4;unfold ph at HL;go_wp2_with fail
 go_region_with (go_at_call 21;refine (HL.out _ (by exact bK _)).mono ?_;rintro e w3 ⟨rfl,T5⟩;obtain ⟨qv3,hI3,T3,RD,hT3⟩:=T5;have hX3:=RD.keeps HX.out (λhm=>HKP.out _ (.inl rfl) (hT3 _ hm).1);have hR3:=RD.keeps XL.out (λhm=>HKP.out _ (.inr rfl) (hT3 _ hm).1);obtain ⟨y0,y1,y2,y3,y4⟩:=jl hX3;obtain ⟨⟨u0,u1,u2,u3,u4⟩,e0,e1,e2,e3,e4⟩:=iB hR3)
 all_goals
  have HR3:=af hR3;have Zo:=af hI3;have S5:=af RD;have HT3:=af hT3;clear hX3 hR3 hI3 RD hT3 y0 y1 y2 y3 y4 u0 u1 u2 u3 u4 e0 e1 e2 e3 e4 x0 x1 x2 x3 x4 z0 z1 z2 z3 z4 f0 f1 f2 f3 f4;go_wp2_with fail
  (try simp only [Exit.inBlock,Exit.then])
  have X0:=HRR.out;change bodyPost _ _ _ _ _ (pc w3 R x.OD x.dst x.kind (.slice av x.N.length cv) (.slice Wi bv cw));have oR:=il w3 R x.OD x.dst x.kind (.slice av x.N.length cv) (.slice Wi bv cw);have hRA:∀b∈[R],b∈A++[R]:=λb hb=>aR _ hb;have hYR:R∉Y:=HKP.out _ (.inr rfl);have o3:Only T3 (w1.alloc (ph x (.slice av x.N.length cv) (.slice Wi bv cw))) w3:=⟨S5.out.os,S5.out.tape,S5.out.output,S5.out.size,S5.out.block⟩
  have hb2:=O5.out;rw [<-X0] at hb2;have o4:Only T3 w w3:=(Only.OL hb2 T3).trans o3;refine bodyPost_ret (gH (fn:=Tryz.f39) rfl _ _ R _ _ _ _ _ _ rfl rfl (sG _ _ _ _ _ HR3.out)) rfl ⟨_,_,rfl,?_,?_⟩
  ·exact ((HV2.out.step o3 (λb hb=>aI _ (HN0.out.yA b (HT3.out b hb).1)) (Ext.refl _ _)).step oR hRA (Ext.refl _ _)).less (λb hb=>aI _ hb)
  ·refine ⟨qv3,(Zo.out.keep oR hRA (λb hb hm=>by rw [aj.1 hm] at hb;exact hYR hb) (Ext.refl _ _) (λb hb=>hb) (λb hb=>aK (Zo.out.alt b hb) oR.size)).less (λb hb=>aI _ hb) HN0.out.yA,T3,⟨oR.os.trans o4.os,oR.tape.trans o4.tape,oR.output.trans o4.output,aF o4.size oR.size,λk hk hn=>(oR.block k (aK hk o4.size) gD).trans (o4.block k hk hn)⟩,λb hb=>?_⟩;obtain ⟨k1,k2⟩:=HT3.out b hb;have e1:(w1.alloc (ph x (.slice av x.N.length cv) (.slice Wi bv cw))).heap[b]? = w.heap[b]? := hb2.block b (HN0.out.alt b (HN0.out.yA b k1));refine ⟨k1,k2.imp id (λ⟨cur,hc⟩=>⟨cur,?_⟩)⟩;rw [<-e1];exact hc
theorem xY (h:Pv w A Y nb mb n qv q es) (x:Int) (hx:(decide (0<=x)&&decide (x<(q.length:Int)))=false) :
  Calls Tryz.prog 39 #[.pointer (some ⟨nb,0,none⟩),.int .i64 x] w λe w'=>e = .returned (.tuple #[en og (.slice none 0 0) (.slice none 0 0),.bool false])/\Below w.heap.size w w':=by
 have hbz:Below w.heap.size w (w.alloc dt):=(aG _ _).alloc (ah _) dt;have Sk:=h.below hbz;have HB:=af (DU Sk x hx);have HZ:=af (aV w dt);unfold dt at HB;change Hid (Calls Tryz.prog 69 _ _ λe w'=>e = .returned (.tuple #[en og (.slice none 0 0) (.slice none 0 0),.bool false])/\_) at HB;unfold en og at HB ⊢;clear h Sk hbz hx;go_enter Tryz.func39,Tryz.ntmps39
 go_wp2_with fail
 refine HB.out.mono ?_;rintro e w1 ⟨rfl,hb⟩;have hb':Below (w.alloc dt).heap.size (w.alloc dt) w1:=hb;have hR1:w1.heap[w.heap.size]? = some dt:=bA hb' bL HZ.out;have hs1:w.heap.size+1<=w1.heap.size:=by have:=hb'.size;simpa using this
 have Vp:=af (((aG _ w).alloc (ah _) dt).trans (hb'.mono bL));clear hb hb';have XL:=af (bD hR1 dt);have HX:=af (aV w1 dt);obtain ⟨⟨x0,x1,x2,x3,x4⟩,_⟩:=iB HX.out;obtain ⟨⟨z0,z1,z2,z3,z4⟩,f0,f1,f2,f3,f4⟩:=iB XL.out;unfold dt at x0 x1 x2 x3 x4 z0 z1 z2 z3 z4 f0 f1 f2 f3 f4;clear hR1;go_wp2_with fail
 have HXR:Hid (w1.heap.size∉[w.heap.size]):=af gD;have hdr:∀(V:World) p u,V.cell? p=some u->V.drew.cell? p=some u:=λ_ _ _ h=>h;have HPK:Hid (((pc (w1.alloc (.cells #[.int .i64 0,.int .i64 0,.int .i64 0,.slice none 0 0,.slice none 0 0] 83)) w.heap.size 0 0 0 (.slice none 0 0) (.slice none 0 0)).drew).cell? ⟨w1.heap.size,0,none⟩=some (.int .i64 0)/\((pc (w1.alloc (.cells #[.int .i64 0,.int .i64 0,.int .i64 0,.slice none 0 0,.slice none 0 0] 83)) w.heap.size 0 0 0 (.slice none 0 0) (.slice none 0 0)).drew).cell? ⟨w1.heap.size,1,none⟩=some (.int .i64 0)/\((pc (w1.alloc (.cells #[.int .i64 0,.int .i64 0,.int .i64 0,.slice none 0 0,.slice none 0 0] 83)) w.heap.size 0 0 0 (.slice none 0 0) (.slice none 0 0)).drew).cell? ⟨w1.heap.size,2,none⟩=some (.int .i64 0)/\((pc (w1.alloc (.cells #[.int .i64 0,.int .i64 0,.int .i64 0,.slice none 0 0,.slice none 0 0] 83)) w.heap.size 0 0 0 (.slice none 0 0) (.slice none 0 0)).drew).cell? ⟨w1.heap.size,3,none⟩=some (.slice none 0 0)/\((pc (w1.alloc (.cells #[.int .i64 0,.int .i64 0,.int .i64 0,.slice none 0 0,.slice none 0 0] 83)) w.heap.size 0 0 0 (.slice none 0 0) (.slice none 0 0)).drew).cell? ⟨w1.heap.size,4,none⟩=some (.slice none 0 0)):=af ⟨hdr _ _ _ ((il (w1.alloc (.cells #[.int .i64 0,.int .i64 0,.int .i64 0,.slice none 0 0,.slice none 0 0] 83)) w.heap.size 0 0 0 (.slice none 0 0) (.slice none 0 0)).cell x0 HXR.out),hdr _ _ _ ((il (w1.alloc (.cells #[.int .i64 0,.int .i64 0,.int .i64 0,.slice none 0 0,.slice none 0 0] 83)) w.heap.size 0 0 0 (.slice none 0 0) (.slice none 0 0)).cell x1 HXR.out),hdr _ _ _ ((il (w1.alloc (.cells #[.int .i64 0,.int .i64 0,.int .i64 0,.slice none 0 0,.slice none 0 0] 83)) w.heap.size 0 0 0 (.slice none 0 0) (.slice none 0 0)).cell x2 HXR.out),hdr _ _ _ ((il (w1.alloc (.cells #[.int .i64 0,.int .i64 0,.int .i64 0,.slice none 0 0,.slice none 0 0] 83)) w.heap.size 0 0 0 (.slice none 0 0) (.slice none 0 0)).cell x3 HXR.out),hdr _ _ _ ((il (w1.alloc (.cells #[.int .i64 0,.int .i64 0,.int .i64 0,.slice none 0 0,.slice none 0 0] 83)) w.heap.size 0 0 0 (.slice none 0 0) (.slice none 0 0)).cell x4 HXR.out)⟩;clear hdr;have HVH:Hid ((pc (w1.alloc (.cells #[.int .i64 0,.int .i64 0,.int .i64 0,.slice none 0 0,.slice none 0 0] 83)) w.heap.size 0 0 0 (.slice none 0 0) (.slice none 0 0)).heap[w.heap.size]? = some (.cells #[.int .i64 0,.int .i64 0,.int .i64 0,.slice none 0 0,.slice none 0 0] 83 (0,0))):=af (sG _ _ _ _ _ XL.out);have Zg:Hid (Below w.heap.size w (pc (w1.alloc (.cells #[.int .i64 0,.int .i64 0,.int .i64 0,.slice none 0 0,.slice none 0 0] 83)) w.heap.size 0 0 0 (.slice none 0 0) (.slice none 0 0))):=af (((Vp.out.alloc az _).trans ((il (w1.alloc (.cells #[.int .i64 0,.int .i64 0,.int .i64 0,.slice none 0 0,.slice none 0 0] 83)) w.heap.size 0 0 0 (.slice none 0 0) (.slice none 0 0)).below gD bL)));go_upto_region 2 with (fail)
 refine wp_region_held_drew (S:=λw'=>w'.cell? ⟨w1.heap.size,0,none⟩=some (.int .i64 0)/\w'.cell? ⟨w1.heap.size,1,none⟩=some (.int .i64 0)/\w'.cell? ⟨w1.heap.size,2,none⟩=some (.int .i64 0)/\w'.cell? ⟨w1.heap.size,3,none⟩=some (.slice none 0 0)/\w'.cell? ⟨w1.heap.size,4,none⟩=some (.slice none 0 0)) dW ⟨x0,x1,x2,x3,x4⟩ (λaD=>?_);refine aJ 0 ?_;refine aJ 1 ?_;refine aJ 2 ?_;refine dR 3 ?_;refine dR 4 ?_;refine dR 5 ?_;refine aJ 6 ?_;refine dh 7 λK hK=>?_;go_simp
 refine hK.out _ _ (by exact HPK.out) (λaD=>?_);clear hK K;refine bX ?_;refine aJ 8 ?_;refine iX ?_;go_wp2_with fail
 (try simp only [Exit.inBlock,Exit.then])
 change bodyPost _ _ _ _ _ (pc (w1.alloc (.cells #[.int .i64 0,.int .i64 0,.int .i64 0,.slice none 0 0,.slice none 0 0] 83)) w.heap.size 0 0 0 (.slice none 0 0) (.slice none 0 0)).drew;generalize hV:pc (w1.alloc (.cells #[.int .i64 0,.int .i64 0,.int .i64 0,.slice none 0 0,.slice none 0 0] 83)) w.heap.size 0 0 0 (.slice none 0 0) (.slice none 0 0)=V at *;exact bodyPost_ret (gH (fn:=Tryz.f39) rfl _ _ w.heap.size _ _ _ _ _ _ rfl rfl (show V.drew.heap[w.heap.size]? = _ from HVH.out)) rfl ⟨rfl,Zg.out.trans ((bK V).mono Zg.out.size)⟩
end
section
variable {w w':World} {A Y:List Nat} {nb mb n:Nat} {qv v:Value} {q ms:List OM} {es:Pn}
theorem Pv.WZ {v':Value} {q':List OM} (h:Pv w A Y nb mb n qv q es) (hp:QP w w' A Y v' q'):w'.heap[nb]? = some (eD (n:Int) 2000 qv mb):=by
 obtain ⟨A',Y',hq,hm,ha,hyA,hyn,T,ZL,hT⟩:=hp;refine ZL.keeps h.RL (λhm=>?_);obtain ⟨_,cur,hc⟩:=hT nb hm;rw [h.RL] at hc;simp [eD] at hc
theorem QP.shape {q:List OM} {v':Value} (hp:QP w w' A Y v' q):∃ao k c,v' = .slice ao k c:=by
 obtain ⟨A',Y',hq,_⟩:=hp;obtain ⟨ao,c,h1,_⟩:=hq.shape;exact ⟨ao,_,c,h1⟩
theorem vG (h:Pv w A Y nb mb n qv q es) (x:Int) (hx:(decide (0<=x)&&decide (x<(q.length:Int)))=false\/(2000:Int)<=(q.length:Int)) :
  Calls Tryz.prog 22 #[.pointer (some ⟨nb,0,none⟩),.int .i64 x] w λe w'=>e = .returned (.bool false)/\Below w.heap.size w w':=by
 obtain ⟨ao,cap,rfl,H1⟩:=h.shape;have HH:Hid (∀d,Calls Tryz.prog 41 #[.pointer (some ⟨nb,0,none⟩),.int .i64 x] (w.drewN d) λe w'=>e = .returned (.bool (decide (0<=x)&&decide (x<(q.length:Int))))/\w.drewN d=w'):=af λd=>jY (h.below (aB w d)).RL x;have hc1:w.cell? ⟨nb,1,none⟩=some (.int .i64 2000):=Ep;have hc2:w.cell? ⟨nb,2,none⟩=some (.slice ao q.length cap):=Ep;clear H1 h;generalize hb:(decide (0<=x)&&decide (x<(q.length:Int)))=b at *;generalize q.length=m at *;clear hb;cases b
 ·clear hx;exact Mr
 ·have hr:(2000:Int)<=(m:Int):=by rcases hx with hx | hx;cases hx;exact hx
  have d0:decide ((2000:Int)<=(m:Int))=true:=aO hr;clear hx hr;exact Mr
theorem yb (h:Pv w A Y nb mb n qv q es) (k:Nat) (hk:k<q.length) (hl:q.length<2000) (hm:jt q[k]) :
  Calls Tryz.prog 22 #[.pointer (some ⟨nb,0,none⟩),.int .i64 (k:Int)] w λe w'=>e = .returned (.bool true)/\Sz w w' A Y nb n mb (q++[q[k]]) es:=by
 have HH:Hid (∀d,Calls Tryz.prog 41 #[.pointer (some ⟨nb,0,none⟩),.int .i64 (k:Int)] (w.drewN d) λe w'=>e = .returned (.bool true)/\w.drewN d=w'):=af λd=>by
  obtain ⟨ao,cap,_,H1⟩:=h.shape;have:=jY (bA (aB w d) (bg H1) H1) (k:Int)
  rwa [aO (show (0:Int)<=k by omega),aO (show (k:Int)<(q.length:Int) by omega)] at this
 obtain ⟨g,off,c,mv,mu,rfl,hcc,e0,e1,e2,e3,e4,Td⟩:=h.q.at k hk;have H1:=h.RL;have hc1:w.cell? ⟨nb,1,none⟩=some (.int .i64 2000):=Ep;have c2:w.cell? ⟨nb,2,none⟩=some (.slice (some ⟨g,off,none⟩) q.length c):=Ep;have HN:=af h;obtain ⟨⟨ao,cN,rfl⟩,a2,b2,d2,rfl⟩:=Td.shapes;have HCP:Hid (∀w',Below w.heap.size w w'->Calls Tryz.prog 43 #[en q[k] (.slice ao q[k].N.length cN) (.slice a2 b2 d2)] w' λe w''=>∃v' u',e = .returned (en q[k] v' u')/\OU w'' A q[k] v' u'/\Below w'.heap.size w' w''):=af λw' hb=>ng q[k] _ _ w' (Td.below hb) hm (λb hb2=>aK (h.alt b hb2) hb.size);unfold en at HCP;generalize q[k]=x at *;have VV:(k:Int)<(q.length:Int):=az;have d0:decide ((2000:Int)<=(q.length:Int))=false:=bp az;clear H1 h Td hm;generalize htn:q.length=tn at *;have HTN:=af htn;clear htn;go_enter Tryz.func22,Tryz.ntmps22
 go_wp2_with fail
 go_quiet ((go_at_call 41;exact mG (HH.out _)))
 go_wp2_with fail
 go_region_law (first
  | (refine d8 rfl λQ' hQ=>?_;refine kN rfl (.tmp 25) (.tmp 34) rfl (by exact VC.out.q) (by exact VC.out.yA) (by exact VC.out.alt) (by exact HH6.out) (by exact HM6.out) (by have:=HTN.out;omega) jy jy ?_;intro v9 w9 hqp hz9;obtain ⟨a9,n9,c9,e9⟩:=hqp.shape;subst e9;have Q5:=VC.out.WZ hqp;unfold eD at Q5;have hcb9:w9.cell? ⟨nb,2,none⟩=some (.slice (some ⟨g,off,none⟩) tn c):=(ap Q5 2).trans rfl;have hfb9:=aU Q5 2;refine hQ _ _ ?_;clear hQ Q' Q5)
  | (go_simp;go_at_call 43;refine (HCP.out _ (by exact ⟨rfl,rfl,rfl,ah _,λ_ _=>rfl⟩)).mono ?_;rintro e w5 ⟨v5,u5,rfl,XX,PA⟩;obtain ⟨⟨av,cv,rfl⟩,Wi,bv,cw,rfl⟩:=XX.shapes;try dsimp only;have TL:Below w.heap.size w w5:=⟨PA.os,PA.tape,PA.output,PA.size,PA.block⟩;have Y5:=cell_later TL c2;have Tx:Below w5.heap.size w5 (w5.alloc (.cells #[.int .i64 x.OD,.int .i64 x.dst,.int .i64 x.kind,.slice av x.N.length cv,.slice Wi bv cw] 83)):=(aG _ _).alloc (ah _) _;have Y4:=cell_later Tx Y5;have VC:=af ((HN.out.below TL).below Tx);have HM6:=af (XX.below Tx);have HH6:=af (aV w5 (.cells #[.int .i64 x.OD,.int .i64 x.dst,.int .i64 x.kind,.slice av x.N.length cv,.slice Wi bv cw] 83));have TQ:=af (TL.trans (Tx.mono TL.size));clear PA XX TL Tx))
 all_goals
  have HF:=af (Sz.later HN.out TQ.out (VC.out.setq hqp (hz9 HN.out.z)));clear hqp hz9 hcb9 hfb9 Y5 Y4 e0 e1 e2 e3 e4;exact DY
end
section
variable {w w':World} {A A':List Nat}
def QD (w:World) (A:List Nat) (v:Value) (ms:List OM):Prop :=
 (v = .slice none 0 0/\ms=[])\/∃g c cur,v = .slice (some ⟨g,0,none⟩) ms.length c/\ms.length<=c/\c<=9223372036854775807/\g∉A/\w.heap[g]? = some (.cells cur 83 (0,0))/\∀i,(h:i<ms.length)->QAt w A cur i ms[i]
theorem QD.step {v:Value} {ms:List OM} {T:List Nat} (h:QD w A v ms) (ho:Only T w w') (hT:∀b∈T,b∈A) (he:Ext A A' w):QD w' A' v ms:=by
 rcases h with h | ⟨g,c,cur,h1,h2,h3,h4,h5,h6⟩
 ·exact .inl h
 ·refine .inr ⟨g,c,cur,h1,h2,h3,λhm=>?_,ho.keeps h5 (λhm=>h4 (hT _ hm)),λi hi=>(h6 i hi).step ho hT he⟩;rcases he g hm with h7 | h7
  ·exact h4 h7
  ·have:=bg h5;omega
theorem PG.row {base:Nat} {v:Value} {ms:List OM} (h:PG w A base v ms) (hv:∀b,v.ownBlock=some b->b∉A):QD w A v ms:=by
 obtain ⟨ps,h1,h2,h3⟩:=h;have hl:ps.length=ms.length:=by rw [<-h1,aW]
 rcases h2.2 with ⟨rfl,h0⟩ | ⟨g,cap,cur,rfl,hg,hh,hn,hm,hs,ht⟩
 ·exact .inl ⟨rfl,bP.1 h0⟩
 ·unfold maxLen at hm;refine .inr ⟨g,cap,cur,rfl,hn,by omega,hv g rfl,hh,λi hi=>?_⟩;have hp:ps.getD i LH∈ps:=by
   grind
  have Qb:(ps.getD i LH).m=ms[i]:=by
   grind
  have hc:∀j,j<5->cur[i*5+j]? = (et (ps.getD i LH))[j]? := λj hj=>by
   rw [<-zi ps i j az hj,<-ht,fz,ay az,ft]
  refine ⟨(ps.getD i LH).v,(ps.getD i LH).u,?_,?_,?_,?_,?_,?_⟩
  ·rw [<-Qb];exact hc 0 az
  ·rw [<-Qb];exact hc 1 az
  ·rw [<-Qb];exact hc 2 az
  ·exact hc 3 az
  ·exact hc 4 az
  ·rw [<-Qb];exact (h3 _ hp).less (λb hb=>aI _ hb)
def gF (q:List OM) (m:OM):List OM:=if q.length<2000 then q++[m] else q
theorem xk (q:List OM) (m:OM) (h:q.length<=2000):(gF q m).length<=2000:=by
 unfold gF;split
 ·simp;omega
 ·exact h
end
def fP (ct:OM->Bool) (q:List OM) (m:OM):List OM:=if ct m then q else gF q m
theorem xl (ct:OM->Bool) (ms:List OM):∀q:List OM,q.length<=2000->(ms.foldl (fP ct) q).length<=2000:=by
 induction ms with
 | nil=>exact λq h=>h
 | cons m ms ih =>
  intro q h;refine ih _ ?_;unfold fP;split
  ·exact h
  ·exact xk q m h
structure NtX (w w':World) (A Y A' Y':List Nat) (nb mb Q8:Nat):Prop where
 mv:Mv A A' Y Y' w w'
 y:∀b∈Y',b∈Y\/w.heap.size<=b
 e:Q8=mb\/w.heap.size<=Q8
 t:∃T,Only T w w'/\∀b∈T,b∈Y/\(b=nb\/b=mb\/∃cur,w.heap[b]? = some (.cells cur 83 (0,0)))
section
variable {w w' w2:World} {A A' Y Y':List Nat} {nb mb Q8 n:Nat} {qv:Value} {q q2:List OM} {es es2:Pn}
theorem NtX.trans (x:NtX w w' A Y A' Y' nb mb Q8) (g:Sz w' w2 A' Y' nb n Q8 q2 es2):Sz w w2 A Y nb n mb q2 es2:=by
 obtain ⟨m1,y1,e1,T1,o1,t1⟩:=x;obtain ⟨A2,Y2,mb2,RS,h2,m2,y2,e2,T2,o2,t2⟩:=g;refine ⟨A2,Y2,mb2,RS,h2,m1.trans m2,λb hb=>?_,?_,T1++T2.filter (λb=>decide (b<w.heap.size)),?_,λb hb=>?_⟩
 ·grind [o1.size]
 ·grind [o1.size]
 ·refine ⟨o2.os.trans o1.os,o2.tape.trans o1.tape,o2.output.trans o1.output,aF o1.size o2.size,λk hk hn=>?_⟩;rw [aA,not_or] at hn;rw [o2.block k (aK hk o1.size) (λhm=>hn.2 (rY.2 ⟨hm,by simpa using hk⟩)),o1.block k hk hn.1]
 ·grind [o1.block]
theorem Sz.open (h:Sz w w' A Y nb n mb q es):∃A' Y' Q8 qv,Pv w' A' Y' nb Q8 n qv q es/\NtX w w' A Y A' Y' nb mb Q8:=by
 obtain ⟨A',Y',Q8,qv,h,m,y,e,t⟩:=h;exact ⟨A',Y',Q8,qv,h,m,y,e,t⟩
end
section
variable {w w':World} {A Y:List Nat} {nb mb n:Nat} {qv v:Value} {q ms:List OM} {es:Pn}
def ey (es:Pn) (m:OM):Bool:=oz es (oJ m.OD m.dst)
theorem Ci (ct:OM->Bool) (q ms:List OM) (j:Nat) (h:j<ms.length):(ms.take (j+1)).foldl (fP ct) q=fP ct ((ms.take j).foldl (fP ct) q) ms[j]:=by
 rw [<-bO h,eZ];rfl
theorem AY (h:Pv w A Y nb mb n qv q es) (hn:n<=5) (hq:q.length<=2000) (v:Value) (hr:QD w A v ms) (hg:∀m∈ms,jt m/\(0<=m.OD/\m.OD<(n:Int))/\0<=m.dst/\m.dst<(n:Int)) :
  Calls Tryz.prog 60 #[.pointer (some ⟨nb,0,none⟩),v] w λe w'=>(∃c:Int,e = .returned (.int .i64 c))/\Sz w w' A Y nb n mb (ms.foldl (fP (ey es)) q) es:=by
 have HR:=af hr;have HG:=af hg;have HST:=af (λj (hj:j<ms.length)=>Ci (ey es) q ms j hj);have HQLn:=af (λj=>xl (ey es) (ms.take j) q hq);have HYA:=af h.yA;have H0:Hid (Sz w w A Y nb n mb q es):=af (h.ntp (aG _ _));have SQ:Hid (ms.foldl (fP (ey es)) q=(ms.take ms.length).foldl (fP (ey es)) q):=af (by rw [bW]);have hl:ms.length<=9223372036854775807:=by
  rcases hr with ⟨rfl,rfl⟩ | ⟨g,c',cur,rfl,h1,h2,_⟩
  ·simp
  ·omega
 have ZJ:∃ao cc,v = .slice ao ms.length cc:=by
  rcases hr with ⟨rfl,rfl⟩ | ⟨g,c',cur,rfl,_⟩
  ·exact ⟨none,0,rfl⟩
  ·exact ⟨_,_,rfl⟩
 obtain ⟨ao,cc,rfl⟩:=ZJ;clear h hr hg hq;go_enter Tryz.func60,Tryz.ntmps60
 go_wp2_with fail
 go_loopw [5,10] (λv i wr=>∃(j:Nat) (c:Int),j<=ms.length/\i = .int .i64 (j:Int)/\v = .int .i64 c/\Sz w wr A Y nb n mb ((ms.take j).foldl (fP (ey es)) q) es) (λ_ i _=>ms.length - (intOf i).toNat)
 case atStart=>exact ⟨0,0,aH _,rfl,rfl,H0.out⟩
 case round =>
  obtain ⟨j,cn,hj,rfl,rfl,hP⟩:=hrel;by_cases hlt:j<ms.length
  ·obtain ⟨A1,Y1,mb1,qv1,h1,X1⟩:=hP.open;have hr1:=HR.out.step X1.mv.mv.only HYA.out X1.mv.ext;rcases hr1 with ⟨_,h0⟩ | ⟨g,c',cur,ev,_,_,hgA,hgh,hat⟩
   ·rw [h0] at hlt;cases hlt
   cases ev;obtain ⟨mv,mu,k0,k1,k2,k3,k4,Td⟩:=hat j hlt;obtain ⟨f0,f1,f2⟩:=HG.out ms[j] (cW _);have HSTJ:=af (HST.out j hlt);generalize ms[j]=x at *;have WT:wr.cell? ⟨g,j*5,none⟩=some (.int .i64 x.OD):=by rw [ap hgh];exact k0
   have Ya:wr.cell? ⟨g,j*5+1,none⟩=some (.int .i64 x.dst):=by rw [ap hgh];exact k1
   have hk2:wr.cell? ⟨g,j*5+2,none⟩=some (.int .i64 x.kind):=by rw [ap hgh];exact k2
   have hk3:wr.cell? ⟨g,j*5+3,none⟩=some mv:=by rw [ap hgh];exact k3
   have hk4:wr.cell? ⟨g,j*5+4,none⟩=some mu:=by rw [ap hgh];exact k4
   have HQL:Hid (((ms.take j).foldl (fP (ey es)) q).length<=2000):=af (HQLn.out j);generalize (ms.take j).foldl (fP (ey es)) q=Q at *;obtain ⟨⟨ax,cx,rfl⟩,ax2,bx,dx,rfl⟩:=Td.shapes;obtain ⟨O,hO⟩:∃O,O=ph x (.slice ax x.N.length cx) (.slice ax2 bx dx):=⟨_,rfl⟩
   have hBW:Below wr.heap.size wr (wr.alloc O):=(aG _ _).alloc (ah _) O;have HNW:=af (h1.below hBW);have HMSG:=af (Td.below hBW);have HX1:=af X1;have Ri:=af h1;have Zx:=af hBW;have HXC:=af (aV wr O);have q6:IntKind.i64.wrap ((j:Int)+1)=(j:Int)+1:=IntWalk.i64_in _ az;have Ze:=af (CU f1 f2 hn);have HL:=af f0;have HF1:=af f1;have HF2:=af f2;have HO:=af hO;unfold ph at hO;subst hO;clear hgh hat k0 k1 k2 k3 k4 h1 X1 Td hP f0 f1 f2 hBW;go_upto_region 5 with (fail)
   generalize wr.alloc (.cells #[.int .i64 x.OD,.int .i64 x.dst,.int .i64 x.kind,.slice ax x.N.length cx,.slice ax2 bx dx] 83)=W at *;obtain ⟨aq,cq,rfl,Qk⟩:=HNW.out.shape;have HNET:=af Qk;unfold eD at Qk;have x0:∀w',Below W.heap.size W w'->w'.cell? ⟨wr.heap.size,0,none⟩=some (.int .i64 x.OD):=λw' hb=>cell_later hb Er;have x1:∀w',Below W.heap.size W w'->w'.cell? ⟨wr.heap.size,1,none⟩=some (.int .i64 x.dst):=λw' hb=>cell_later hb Er;have a1:∀w',Below W.heap.size W w'->w'.cell? ⟨nb,1,none⟩=some (.int .i64 2000):=λw' hb=>cell_later hb (by rw [ap Qk];rfl);have a2:∀w',Below W.heap.size W w'->w'.cell? ⟨nb,2,none⟩=some (.slice aq Q.length cq):=λw' hb=>cell_later hb (by rw [ap Qk];rfl);have a3:∀w',Below W.heap.size W w'->w'.cell? ⟨nb,3,none⟩=some (.map (some mb1)):=λw' hb=>cell_later hb (by rw [ap Qk];rfl);have HF:Hid (∀w',Below W.heap.size W w'->Calls Tryz.prog 76 #[.pointer (some ⟨nb,0,none⟩),.int .i64 x.OD] w' λe w''=>e = .returned (.bool true)/\w'=w''):=af λw' hb=>by
    have:=od (bA hb (bg HNET.out) HNET.out) x.OD
    rwa [aO HF1.out.1,aO HF1.out.2] at this
   have HD:Hid (∀w',Below W.heap.size W w'->Calls Tryz.prog 76 #[.pointer (some ⟨nb,0,none⟩),.int .i64 x.dst] w' λe w''=>e = .returned (.bool true)/\w'=w''):=af λw' hb=>by
    have:=od (bA hb (bg HNET.out) HNET.out) x.dst
    rwa [aO HF2.out.1,aO HF2.out.2] at this
   have hlk:∀w',Below W.heap.size W w'->(Instr.lookup 63 (.map (some mb1)) (l6 (oJ x.OD x.dst)) false).run Tryz.prog w' = .ok (.bool (oz es (oJ x.OD x.dst))) w':=λw' hb=>Gx (HNW.out.below hb).cut _ Ze.out;have HCT:Hid (ey es x=oz es (oJ x.OD x.dst)):=af rfl;have HXS:Hid (∀w',Below W.heap.size W w'->w'.cell? ⟨wr.heap.size,0,none⟩=some (.int .i64 x.OD)/\w'.cell? ⟨wr.heap.size,1,none⟩=some (.int .i64 x.dst)/\w'.cell? ⟨wr.heap.size,2,none⟩=some (.int .i64 x.kind)/\w'.cell? ⟨wr.heap.size,3,none⟩=some (.slice ax x.N.length cx)/\w'.cell? ⟨wr.heap.size,4,none⟩=some (.slice ax2 bx dx)):=af λw' hb =>
    ⟨x0 w' hb,x1 w' hb,cell_later hb Er,cell_later hb Er,cell_later hb Er⟩
   have HA2:=af a2;clear WT Ya hk2 hk3 hk4 Qk hgA;generalize hcb:oz es (oJ x.OD x.dst)=cb at *;generalize Vb:Q.length=ql at *;have HQE:=af Vb;clear hcb Vb;cases cb
   ·go_cut [48] (λu wx=>u = .bool (decide ((ql:Int)<2000))/\Below W.heap.size W wx)
    case first =>
     refine wp_region_held_drew (S:=λw'=>Below W.heap.size W w') dW (bK W) (λaD=>?_);refine aJ 0 ?_;refine aJ 1 ?_;refine aJ 2 ?_;refine gW (i:=3) (oi:={ dst:=some 17,op:=Op.call { callee:=Callee.value (Operand.func 76),args:=#[Operand.tmp 14,Operand.tmp 16],argTypes:=#[45,3]},type:=4,pos:=_,after:=#[{ on:=0,ground:=Ground.data },{ on:=2,ground:=Ground.data }],guard:=none }) (v:=(.bool true)) rfl dW dW dW (λ_ _ _ h=>h) jy 76 #[.pointer (some ⟨nb,0,none⟩),.int .i64 x.OD] (λw hSw=>by simp [execOp,resolve,invoke,Act.eval,Deferred.ofValue,Result.andThen]) (λw hSw=>HF.out w hSw) (by exact aD) ?_;refine bX ?_;refine aJ 4 ?_;refine aJ 5 ?_;refine aJ 6 ?_;refine aJ 7 ?_;refine gW (i:=8) (oi:={ dst:=some 22,op:=Op.call { callee:=Callee.value (Operand.func 76),args:=#[Operand.tmp 19,Operand.tmp 21],argTypes:=#[45,3]},type:=4,pos:=_,after:=#[{ on:=5,ground:=Ground.data },{ on:=7,ground:=Ground.data },{ on:=4,ground:=Ground.chain },{ on:=4,ground:=Ground.guard }],guard:=some (4,true)}) (v:=(.bool true)) rfl dW dW dW (λ_ _ _ h=>h) jy 76 #[.pointer (some ⟨nb,0,none⟩),.int .i64 x.dst] (λw hSw=>by simp [execOp,resolve,invoke,Act.eval,Deferred.ofValue,Result.andThen]) (λw hSw=>HD.out w hSw) (by exact aD) ?_;refine bX ?_;refine aJ 9 ?_;refine aJ 10 ?_;refine aJ 11 ?_;refine aJ 12 ?_;refine aJ 13 ?_;refine aJ 14 ?_;refine aJ 15 ?_;refine aJ 16 ?_;refine aJ 17 ?_;refine aJ 18 ?_;refine dh 19 λK hK=>?_;go_simp
     refine (tE _ _ _).mono ?_;rintro e w3 ⟨rfl,hb3⟩;go_wp2_with fail
     refine hK.out _ _ (aD.trans (hb3.mono aD.size)) (λaD=>?_);clear hK K;refine bX ?_;clear hb3;refine aJ 20 ?_;refine aJ 21 ?_;refine aJ 22 ?_;refine aJ 23 ?_;refine aJ 24 ?_;refine aJ 25 ?_;refine aJ 26 ?_;refine aJ 27 ?_;refine aJ 28 ?_;refine aJ 29 ?_;refine aJ 30 ?_;refine aJ 31 ?_;refine aJ 32 ?_;refine aJ 33 ?_;exact Jh
    case rest =>
    obtain ⟨rfl,P0⟩:=hcut;clear x0 x1 a1 a2 a3 hlk;by_cases Qq:ql<2000
    ·have TJ:decide ((ql:Int)<2000)=true:=aO az;rw [TJ];have HAD:Hid (fP (ey es) Q x=Q++[x]):=af (by unfold fP gF;rw [HCT.out,am bL,ay (by rw [HQE.out];exact Qq)]);have HN:=af (HNW.out.below P0);have hM:=HMSG.out.below P0;obtain ⟨xx0,xx1,xx2,xx3,xx4⟩:=HXS.out wc P0;have c2:=HA2.out wc P0;have HBX:=af P0;have HCP:Hid (∀w',Below wc.heap.size wc w'->Calls Tryz.prog 43 #[en x (.slice ax x.N.length cx) (.slice ax2 bx dx)] w' λe w''=>∃v' u',e = .returned (en x v' u')/\OU w'' A1 x v' u'/\Below w'.heap.size w' w''):=af λw' hb=>ng x _ _ w' (hM.below hb) HL.out (λb hb2=>aK (HN.out.alt b hb2) hb.size);unfold en at HCP;clear hM P0 TJ;go_wp2_with fail
     go_region_law (first
      | (refine d8 rfl λQ' hQ=>?_;refine kN rfl (.tmp 53) (.tmp 56) rfl (by exact VC.out.q) (by exact VC.out.yA) (by exact VC.out.alt) (by exact HH6.out) (by exact HM6.out) (by have:=HQL.out;have:=HQE.out;omega) jy jy ?_;intro v9 w9 hqp hz9;obtain ⟨a9,n9,c9,e9⟩:=hqp.shape;subst e9;have Q5:=VC.out.WZ hqp;unfold eD at Q5;have hcb9:w9.cell? ⟨nb,2,none⟩=some (.slice aq ql cq):=(ap Q5 2).trans rfl;have hfb9:=aU Q5 2;refine hQ _ _ ?_;clear hQ Q' Q5)
      | (go_simp;go_at_call 43;refine (HCP.out _ (by exact ⟨rfl,rfl,rfl,ah _,λ_ _=>rfl⟩)).mono ?_;rintro e w5 ⟨v5,u5,rfl,XX,PA⟩;obtain ⟨⟨av,cv,rfl⟩,Wi,bv,cw,rfl⟩:=XX.shapes;try dsimp only;have TL:Below wc.heap.size wc w5:=⟨PA.os,PA.tape,PA.output,PA.size,PA.block⟩;have Y5:=cell_later TL c2;have Tx:Below w5.heap.size w5 (w5.alloc (.cells #[.int .i64 x.OD,.int .i64 x.dst,.int .i64 x.kind,.slice av x.N.length cv,.slice Wi bv cw] 83)):=(aG _ _).alloc (ah _) _;have Y4:=cell_later Tx Y5;have VC:=af ((HN.out.below TL).below Tx);have HM6:=af (XX.below Tx);have HH6:=af (aV w5 (.cells #[.int .i64 x.OD,.int .i64 x.dst,.int .i64 x.kind,.slice av x.N.length cv,.slice Wi bv cw] 83));have TQ:=af (TL.trans (Tx.mono TL.size));clear PA XX TL Tx))
     all_goals
      have HFI:=af (NtX.trans HX1.out (Sz.later Ri.out Zx.out (Sz.later HNW.out HBX.out (Sz.later HN.out TQ.out (VC.out.setq hqp (hz9 HN.out.z))))));clear hqp hz9 hcb9 hfb9 Y5 Y4 xx0 xx1 xx2 xx3 xx4 c2;exact KE
    ·have TJ:decide ((ql:Int)<2000)=false:=bp az;rw [TJ];have HAD:Hid (fP (ey es) Q x=Q):=af (by unfold fP gF;rw [HCT.out,am bL,am (by rw [HQE.out];exact Qq)]);have HFI:=af (NtX.trans HX1.out (Sz.later Ri.out Zx.out (HNW.out.ntp P0)));clear P0 TJ;exact KE
   ·go_cut [48] (λu wx=>u = .bool false/\Below W.heap.size W wx)
    case first =>
     refine wp_region_held_drew (S:=λw'=>Below W.heap.size W w') dW (bK W) (λaD=>?_);refine aJ 0 ?_;refine aJ 1 ?_;refine aJ 2 ?_;refine gW (i:=3) (oi:={ dst:=some 17,op:=Op.call { callee:=Callee.value (Operand.func 76),args:=#[Operand.tmp 14,Operand.tmp 16],argTypes:=#[45,3]},type:=4,pos:=_,after:=#[{ on:=0,ground:=Ground.data },{ on:=2,ground:=Ground.data }],guard:=none }) (v:=(.bool true)) rfl dW dW dW (λ_ _ _ h=>h) jy 76 #[.pointer (some ⟨nb,0,none⟩),.int .i64 x.OD] (λw hSw=>by simp [execOp,resolve,invoke,Act.eval,Deferred.ofValue,Result.andThen]) (λw hSw=>HF.out w hSw) (by exact aD) ?_;refine bX ?_;refine aJ 4 ?_;refine aJ 5 ?_;refine aJ 6 ?_;refine aJ 7 ?_;refine gW (i:=8) (oi:={ dst:=some 22,op:=Op.call { callee:=Callee.value (Operand.func 76),args:=#[Operand.tmp 19,Operand.tmp 21],argTypes:=#[45,3]},type:=4,pos:=_,after:=#[{ on:=5,ground:=Ground.data },{ on:=7,ground:=Ground.data },{ on:=4,ground:=Ground.chain },{ on:=4,ground:=Ground.guard }],guard:=some (4,true)}) (v:=(.bool true)) rfl dW dW dW (λ_ _ _ h=>h) jy 76 #[.pointer (some ⟨nb,0,none⟩),.int .i64 x.dst] (λw hSw=>by simp [execOp,resolve,invoke,Act.eval,Deferred.ofValue,Result.andThen]) (λw hSw=>HD.out w hSw) (by exact aD) ?_;refine bX ?_;refine aJ 9 ?_;refine aJ 10 ?_;refine aJ 11 ?_;refine aJ 12 ?_;refine aJ 13 ?_;refine aJ 14 ?_;refine aJ 15 ?_;refine aJ 16 ?_;refine aJ 17 ?_;refine aJ 18 ?_;refine dh 19 λK hK=>?_;go_simp
     refine (tE _ _ _).mono ?_;rintro e w3 ⟨rfl,hb3⟩;go_wp2_with fail
     refine hK.out _ _ (aD.trans (hb3.mono aD.size)) (λaD=>?_);clear hK K;refine bX ?_;clear hb3;refine aJ 20 ?_;refine aJ 21 ?_;refine aJ 22 ?_;refine aJ 23 ?_;refine dR 24 ?_;refine dR 25 ?_;refine dR 26 ?_;refine dR 27 ?_;refine dR 28 ?_;refine dR 29 ?_;refine dR 30 ?_;refine dR 31 ?_;refine dR 32 ?_;refine dR 33 ?_;exact Jh
    case rest =>
    obtain ⟨rfl,P0⟩:=hcut;clear x0 x1 a1 a2 a3 hlk;have HAD:Hid (fP (ey es) Q x=Q):=af (by unfold fP;rw [HCT.out,ay rfl]);have HFI:=af (NtX.trans HX1.out (Sz.later Ri.out Zx.out (HNW.out.ntp P0)));clear P0;exact KE
  ·obtain rfl:j=ms.length:=by omega
   have HF:=af hP;clear hP;go_wp2_with fail
   go_ret
   rw [SQ.out];exact ⟨⟨_,rfl⟩,HF.out⟩
end
theorem pq (l:List (Int×Int×Int)) (i c:Nat) (hi:i<l.length) (hc:c<3):(fZ l)[i*3+c]? = (pa (l.getD i (0,0,0)))[c]? := by
 have key:∀(l:List (Int×Int×Int)) (i:Nat),i<l.length->(l.flatMap pa)[i*3+c]? = (pa (l.getD i (0,0,0)))[c]? := by
  intro l;induction l with
  | nil=>intro i hi;simp at hi
  | cons x l ih =>
   intro i hi;cases i with
   | zero =>
    rw [nG,dN (by simp [pa];omega)];simp
   | succ i =>
    rw [nG,gz (by simp [pa];omega)];have:=ih i El;rw [show (i+1)*3+c - (pa x).length=i*3+c by simp [pa];omega,this];simp
 unfold fZ;rw [jx];exact key l i hi
section
variable {w w':World} {A A' X X':List Nat} {r d l:Nat} {s s':Rp} {k k':Dk}
theorem FH (h:Nd w A X r d l s k) (hw:Wf s k) (hck:s.OA<=1000000):Calls Tryz.prog 64 #[.pointer (some ⟨r,0,none⟩)] w λe w'=>e = .returned (.bool (lC s))/\Below w.heap.size w w':=by
 obtain ⟨al,cl,Rq,PH,hl2⟩:=h.Qd;have Uq:=hw.QV;have Ty:=af (λq=>gg (h.below (aB w q)) s.Oz.length (ah _) az);obtain ⟨D,L,R,vl,gv,gn,gm,gh,h,hX⟩:=h;have hc0:w.cell? ⟨r,0,none⟩=some (.int .i64 (s.own:Int)):=mU;have hc16:w.cell? ⟨r,16,none⟩=some (.int .i64 (s.OA:Int)):=mU;have hc17:w.cell? ⟨r,17,none⟩=some (.slice (some ⟨gh,0,none⟩) s.n s.n):=mU;have hhl:=hw.hl;have HH:Hid (∀i,i<s.n->w.cell? ⟨gh,i*3,none⟩=some (.int .i64 (s.heard.getD i (0,0,0)).1)/\w.cell? ⟨gh,i*3+1,none⟩=some (.int .i64 (s.heard.getD i (0,0,0)).2.1)/\w.cell? ⟨gh,i*3+2,none⟩=some (.int .i64 (s.heard.getD i (0,0,0)).2.2)):=af (λi hi=>⟨by
  rw [ap h.heard];exact pq s.heard i 0 az az,by
  rw [ap h.heard];exact pq s.heard i 1 az az,by
  rw [ap h.heard];exact pq s.heard i 2 az az⟩)
 have HR:Hid (∀i,i<s.n->0<=(s.heard.getD i (0,0,0)).1/\(s.heard.getD i (0,0,0)).1<=(s.OA:Int)):=af (λi hi=>by
  have e:s.heard.getD i (0,0,0)=s.heard[i]'(by omega):=by simp [List.getD,show i<s.heard.length by omega]
  rw [e];exact hw.Sc _ (cW _))
 have HYES:Hid ((∀i,i<s.n->Qs s i (s.heard.getD i (0,0,0))=false)->lC s=true):=af (λhh=>by
  unfold lC;rw [eB];intro i hi;rw [hh i (by have:=eJ.1 hi;omega)];rfl)
 have HNO1:Hid (∀i,i<s.n->Qs s i (s.heard.getD i (0,0,0))=true->lC s=false):=af (λi hi hb=>by
  unfold lC;rw [List.all_eq_false];exact ⟨i,eJ.2 az,by rw [hb];simp⟩)
 have HBT:Hid (∀i x,Qs s i x=(!(x.1==0||decide (4<(s.OA:Int) - x.1))&&(decide (bV s.Oz s.Oz.length<x.2.2)||(x.2.2==bV s.Oz s.Oz.length&&(decide ((s.Oz.length:Int)<x.2.1)||(x.2.1==(s.Oz.length:Int)&&decide (i<s.own))))))):=af (λi x=>rfl);have O8:=hw.n5;clear h hX hw hhl;generalize lC s=bm at *;generalize Qs s=bt at *;generalize bV s.Oz s.Oz.length=lt at *;generalize s.Oz.length=sl at *;generalize s.n=n at *;generalize s.own=ow at *;generalize s.OA=ck at *;generalize s.heard=hd at *;go_enter Tryz.func64,Tryz.ntmps64
 go_upto_region 1 with (fail)
 refine wp_region_held_drew (S:=λw'=>w'.cell? ⟨r,8,none⟩=some (.slice al sl cl)) dW Rq (λaD=>?_);refine aJ 0 ?_;refine aJ 1 ?_;refine aJ 2 ?_;refine aJ 3 ?_;refine aJ 4 ?_;refine aJ 5 ?_;refine aJ 6 ?_;refine aJ 7 ?_;refine aJ 8 ?_;refine aJ 9 ?_;refine aJ 10 ?_;refine dh 11 λK hK=>?_;go_simp
 refine (Ty.out _).mono ?_;rintro e wa ⟨rfl,rfl⟩;go_wp2_with fail
 refine hK.out _ _ aD (λaD=>?_);clear hK K;refine bX ?_;refine aJ 12 ?_;refine aJ 13 ?_;refine iX ?_;clear aD;go_wp2_with fail
 go_loopw [24] (λi wr=>∃j:Nat,j<=n/\i = .int .i64 (j:Int)/\(∀i,i<j->bt i (hd.getD i (0,0,0))=false)/\Below w.heap.size w wr) (λi _=>n - (intOf i).toNat)
 case atStart=>exact ⟨0,aH _,rfl,(λi hi=>by omega),aB _ 1⟩
 case round =>
  obtain ⟨j,hj,rfl,hpr,hb⟩:=hrel;have HPR:=af hpr;have HB:=af hb;clear hpr hb;by_cases R2:j<n
  ·obtain ⟨Vs,Su,PN⟩:=HH.out j R2;obtain ⟨WM,hr1⟩:=HR.out j R2;have WC:=af (HBT.out j (hd.getD j (0,0,0)));have Zm:=af (HNO1.out j R2);generalize hx:hd.getD j (0,0,0)=x at *;obtain ⟨at_,mn,tm⟩:=x;simp only at Vs Su PN WM hr1 WC;have WC:Hid (bt j (at_,mn,tm)=(!(at_==0||decide (4<(ck:Int) - at_))&&(decide (lt<tm)||(tm==lt&&(decide ((sl:Int)<mn)||(mn==(sl:Int)&&decide ((j:Int)<(ow:Int)))))))):=af (by
    have e9:decide ((j:Int)<(ow:Int))=decide (j<ow):=decide_eq_decide.2 ⟨λh=>by omega,λh=>by omega⟩;rw [WC.out,e9])
   have Vs:=cell_later HB.out Vs;have Su:=cell_later HB.out Su;have PN:=cell_later HB.out PN;have hbA:Below wr.heap.size wr (wr.alloc (.cells #[.int .i64 at_,.int .i64 mn,.int .i64 tm] 117)):=(aG _ _).alloc (ah _) _;have hy16:=cell_later hbA (cell_later HB.out hc16);have Xt:=cell_later hbA (cell_later HB.out hc0);have hz0:(wr.alloc (.cells #[.int .i64 at_,.int .i64 mn,.int .i64 tm] 117)).cell? ⟨wr.heap.size,0,none⟩=some (.int .i64 at_):=vP;have hz1:(wr.alloc (.cells #[.int .i64 at_,.int .i64 mn,.int .i64 tm] 117)).cell? ⟨wr.heap.size,1,none⟩=some (.int .i64 mn):=vP;have hz2:(wr.alloc (.cells #[.int .i64 at_,.int .i64 mn,.int .i64 tm] 117)).cell? ⟨wr.heap.size,2,none⟩=some (.int .i64 tm):=vP;have O5:Hid (∀q,Below w.heap.size w ((wr.alloc (.cells #[.int .i64 at_,.int .i64 mn,.int .i64 tm] 117)).drewN q)):=af (λq=>(HB.out.trans (hbA.mono HB.out.size)).trans ((aB _ q).mono (HB.out.trans (hbA.mono HB.out.size)).size));have q1:IntKind.i64.wrap ((ck:Int) - at_)=(ck:Int) - at_:=IntWalk.i64_in _ az;have q2:IntKind.i64.wrap ((j:Int)+1)=(j:Int)+1:=IntWalk.i64_in _ az;have q3:(j:Int)<(n:Int):=az;have HX:=af hx;clear WM hr1 hbA hc0 hc16 hc17 R2 hx;cases a1:at_==0 with
   | true =>
    exact ME
   | false =>
    cases a2:decide (4<(ck:Int) - at_) with
    | true =>
     exact ME
    | false =>
     cases t1:decide (lt<tm) with
     | true =>
      exact KH
     | false =>
      cases t2:tm==lt with
      | true =>
       cases m1:decide ((sl:Int)<mn) with
       | true =>
        exact KH
       | false =>
        cases m2:mn==(sl:Int) with
        | true =>
         cases o1:decide (j<ow) with
         | true =>
          exact KH
         | false =>
          exact ME
        | false =>
         exact ME
      | false =>
       exact ME
  ·obtain rfl:j=n:=by omega
   go_wp2_with fail
   go_ret
   exact ⟨by rw [HYES.out HPR.out];rfl,HB.out⟩
end
theorem CD {p:Prop} (h:p:=by
 refine dh 16 λK hK=>?_;go_simp
 refine (Xm.out _ (aB _ 1)).mono ?_;rintro e w2 ⟨rfl,Pf⟩;have QT:=af Pf;have hk2:=HKP.out w2 Pf;clear Pf;go_wp2_with fail
 refine hK.out _ _ hk2 (λaD=>?_);clear hK K;refine bX ?_;refine aJ 17 ?_;refine aJ 18 ?_;refine iX ?_;clear aD;go_wp2_with fail
 go_ret
 rw [HE.out];exact PE.none (Py.trans QU.out QT.out)):p:=h
theorem CC {p:Prop} (h:p:=by
 refine dh 16 λK hK=>?_;go_simp
 refine (Xm.out _ (aB _ 1)).mono ?_;rintro e w2 ⟨rfl,Pf⟩;have QT:=af Pf;have hk2:=HKP.out w2 Pf;clear Pf;go_wp2_with fail
 refine hK.out _ _ hk2 (λaD=>?_);clear hK K;refine bX ?_;refine aJ 17 ?_;refine aJ 18 ?_;refine iX ?_;clear aD;go_wp2_with fail
 go_meet
 exact ⟨rfl,QT.out,hk2⟩):p:=h
theorem Nq:(Tryz.prog.info? 4).map (λi=>(i.zero,i.size,i.bytes))=some (some (.bool false),1,1):=dW
theorem qX (n:Nat) (hn:n<=5) (w:World):(Instr.makeSlice 73 (.int .i64 (n:Int)) (.int .i64 (n:Int))).run Tryz.prog w = .ok (.slice (some ⟨w.heap.size,0,none⟩) n n) (w.alloc (.cells (eg (List.replicate n false)) 4)):=by
 have h:=run_make_row' (P:=Tryz.prog) 73 4 (.bool false) 1 Tryz.underlying73 Nq rfl .i64 .i64 n az az w;rw [h];have e:madeCells #[Value.bool false] n=eg (List.replicate n false):=by
  apply Array.ext';rw [toList_madeCells_one];simp [eg]
 rw [e]
section
variable {w w':World} {A A' X X':List Nat} {r d l:Nat} {s s':Rp} {k k':Dk}
theorem Nd.Xq (h:Nd w A X r d l s k) (bs:List Bool):Py w ((w.alloc (.cells (eg bs) 4)).setCell ⟨r,12,none⟩ (tT w.heap.size s.n)) A X r d l { s with OB:=bs } k:=by
 have hrX:=h.rX;obtain ⟨D,L,R,vl,gv,gn,gm,gh,h,hX⟩:=h;have hb:Below w.heap.size w (w.alloc (.cells (eg bs) 4)):=(aG _ _).alloc (ah _) _;have h1:=h.below hb;have RY:=aV w (.cells (eg bs) 4);generalize w.alloc (.cells (eg bs) 4)=w1 at *;have ho:Only [r] w1 (w1.setCell ⟨r,12,none⟩ (tT w.heap.size s.n)):=(Only.refl _ _).setCell bL _;have hS:∀b∈[r],b∈R:=λb hb=>KU;have he:Ext A (A++[w.heap.size]) w:=λb hb=>by
  rcases aA.1 hb with hb | hb
  ·exact .inl hb
  ·exact .inr (by rw [aj.1 hb];exact ah _)
 have T4:∀b∈[r],b∈A:=λb hb=>h.rA b (hS b hb);have oo:Only [r] w (w1.setCell ⟨r,12,none⟩ (tT w.heap.size s.n)):=(Only.OL hb _).trans ho;have hlt:∀b∈A,b<w.heap.size:=h.wd.alt;refine ⟨A++[w.heap.size],w.heap.size::X,⟨D,L,w.heap.size::R,vl,w.heap.size,gn,gm,gh,⟨⟨h.wd.wl.keep oo (h.disL hS) T4 he,h.wd.dk.keep oo (h.disD hS),h.wd.Vm,λb hb=>aI _ (h.wd.dA b hb),λb hb=>aI _ (h.wd.lA b hb),λb hb2=>?_⟩,by rw [be h1.cell];rfl,h.Oz.step oo T4 he,ho.keeps RY (by simpa using cQ RY h1.cell dZ),ho.keeps h1.next (by simpa using cQ h1.next h1.cell dZ),ho.keeps h1.OE (by simpa using cQ h1.OE h1.cell dZ),ho.keeps h1.heard (by simpa using cQ h1.heard h1.cell dZ),h.nm,by simp [h.rR],by simp,by simp [h.nR],by simp [h.mR],by simp [h.hR],λb hb hd=>?_,λb hb hd=>?_,λb hb=>?_⟩,λb=>?_⟩,⟨⟨oo.mono (by simpa using hrX),λb hb=>?_,λb hb=>aM _ hb⟩,he,λb hb=>aI _ hb⟩⟩
 ·have hsz:=oo.size;rcases aA.1 hb2 with h3 | h3
  ·have:=hlt b h3;omega
  ·have:=bg (ho.keeps RY (by simpa using cQ RY h1.cell dZ));rw [aj.1 h3];exact this
 ·rcases cA.1 hb with rfl | hb
  ·have:=h.wd.dk.lt _ hd;omega
  ·exact h.Yi b hb hd
 ·rcases cA.1 hb with rfl | hb
  ·have:=h.wd.wl.lt _ hd;omega
  ·exact h.Yh b hb hd
 ·rcases cA.1 hb with rfl | hb
  ·simp
  ·exact aI _ (h.rA b hb)
 ·simp only [cA,hX b];constructor
  ·rintro (h3 | h3 | h3 | h3)
   ·exact .inr (.inr (.inl h3))
   ·exact .inl h3
   ·exact .inr (.inl h3)
   ·exact .inr (.inr (.inr h3))
  ·rintro (h3 | h3 | h3 | h3)
   ·exact .inr (.inl h3)
   ·exact .inr (.inr (.inl h3))
   ·exact .inl h3
   ·exact .inr (.inr (.inr h3))
 ·rcases cA.1 hb with rfl | hb
  ·exact .inr (ah _)
  ·exact .inl hb
theorem yK (Ow who:Int):(bB s k Ow who).2.1.n=s.n/\(bB s k Ow who).2.1.own=s.own/\(bB s k Ow who).2.1.Oz=s.Oz/\(bB s k Ow who).2.1.OA=s.OA/\(bB s k Ow who).2.1.OB=s.OB:=by
 have h1:=fj (s:=s) (k:=k) (ez Ow who);unfold bB;generalize bQ s k (ez Ow who)=p at *;simp only;split
 ·rw [h1];exact ⟨rfl,rfl,rfl,rfl,rfl⟩
 ·have h2:=fQ (s:=p.1) (k:=p.2);generalize cO p.1 p.2=q at *;split
  ·rw [h2,h1];exact ⟨rfl,rfl,rfl,rfl,rfl⟩
  ·simp only;rw [h2,h1];exact ⟨rfl,rfl,rfl,rfl,rfl⟩
theorem Nd.VI (h:Nd w A X r d l s k) (bs:List Bool) (n:Nat) (hn:s.n=n) (W:World) (hW:W=(w.alloc (.cells (eg bs) 4)).setCell ⟨r,12,none⟩ (.slice (some ⟨w.heap.size,0,none⟩) n n)):Py w W A X r d l { s with OB:=bs } k:=by
 subst hn hW;exact h.Xq bs
theorem AB (h:Nd w A X r d l s k) (hw:Wf s k):Calls Tryz.prog 65 #[.pointer (some ⟨r,0,none⟩)] w λe w'=>PE w w' A X r d l e (gZ s k):=by
 have Pe:Below w.heap.size w (w.alloc (.cells #[.pointer (some ⟨r,0,none⟩)] 53)):=(aG _ _).alloc (ah _) _;have P0:=aV w (.cells #[.pointer (some ⟨r,0,none⟩)] 53);have h1:=h.below Pe;have VZ:∀b∈X,b<w.heap.size:=λb hb=>h.alt b (h.xA b hb);have QU:Hid (Mv A A X X w (w.alloc (.cells #[.pointer (some ⟨r,0,none⟩)] 53))):=af (Mv.below Pe);have hP0:(w.alloc (.cells #[.pointer (some ⟨r,0,none⟩)] 53)).cell? ⟨w.heap.size,0,none⟩=some (.pointer (some ⟨r,0,none⟩)):=jn;have HE:Hid (gZ s k=(if 1099511627776<=s.Ow then ([],s,k) else
  let p:=bB s k (s.Ow+1) (s.own:Int)
  if p.1 then
   let s1:Rp:={ p.2.1 with Ox:=0,OB:=(List.replicate s.n false).set s.own true }
   if gI s1 then hJ s1 p.2.2 else (dB s1 (br s1 1),s1,p.2.2)
  else ([],p.2))):=af rfl
 obtain ⟨vl,gv,gn,gm,gh,hcell⟩:=h1.cells;have Re:(w.alloc (.cells #[.pointer (some ⟨r,0,none⟩)] 53)).cell? ⟨r,6,none⟩=some (.int .i64 s.Ow):=iI;have hc0:(w.alloc (.cells #[.pointer (some ⟨r,0,none⟩)] 53)).cell? ⟨r,0,none⟩=some (.int .i64 (s.own:Int)):=iI;have HKP:Hid (∀w2 s2 k2,Py (w.alloc (.cells #[.pointer (some ⟨r,0,none⟩)] 53)) w2 A X r d l s2 k2->w2.cell? ⟨w.heap.size,0,none⟩=some (.pointer (some ⟨r,0,none⟩))):=af (λw2 s2 k2 hn=>by
  obtain ⟨A2,X2,h2,m2⟩:=hn;exact m2.mv.only.cell hP0 (λhm=>by have:=VZ _ hm;simp at this))
 have HW:=af hw;have HPN:Hid (∀b∈X,b≠w.heap.size):=af (λb hb e=>by have:=VZ b hb;omega);have hPW:w.heap.size<(w.alloc (.cells #[.pointer (some ⟨r,0,none⟩)] 53)).heap.size:=bL;have Ri:=af h1;have UX:=hw.Ql;have O8:=hw.n5;clear h P0 Pe hcell VZ h1;go_enter Tryz.func65,Tryz.ntmps65
 go_upto_region 1 with (fail)
 generalize w.alloc (.cells #[.pointer (some ⟨r,0,none⟩)] 53)=W at *;generalize w.heap.size=P at *;by_cases UU:1099511627776<=s.Ow
 ·rw [ay UU] at HE;have HNW:Hid (Py w W.drew A X r d l s k):=af (Py.trans QU.out ((Ri.out.below (aB W 1)).VJ (Mv.below (aB W 1))));have g1:decide (1099511627776<=s.Ow)=true:=aO UU;have XG:W.drew.cell? ⟨P,0,none⟩=some (.pointer (some ⟨r,0,none⟩)):=hP0;refine wp_region_held_drew (S:=λw'=>w'.cell? ⟨P,0,none⟩=some (.pointer (some ⟨r,0,none⟩))) dW XG (λaD=>?_);refine aJ 0 ?_;refine aJ 1 ?_;refine aJ 2 ?_;refine dh 3 λK hK=>?_;go_simp
  refine hK.out _ _ aD (λaD=>?_);clear hK K;refine bX ?_;refine aJ 4 ?_;refine aJ 5 ?_;refine dR 6 ?_;refine dR 7 ?_;refine dR 8 ?_;refine dR 9 ?_;refine dR 10 ?_;refine dR 11 ?_;refine dR 12 ?_;refine dR 13 ?_;refine dR 14 ?_;refine dR 15 ?_;refine dR 16 ?_;refine dR 17 ?_;refine aJ 18 ?_;refine iX ?_;clear aD;go_wp2_with fail
  go_ret
  rw [HE.out];exact PE.none HNW.out
 ·rw [am UU] at HE;have g1:decide (1099511627776<=s.Ow)=false:=bp UU;have q1:IntKind.i64.wrap (s.Ow+1)=s.Ow+1:=IntWalk.i64_in _ az;have XG:W.drew.cell? ⟨P,0,none⟩=some (.pointer (some ⟨r,0,none⟩)):=hP0;have Xm:=af (λW' (hb:Below W.heap.size W W')=>(pz (Ri.out.below hb) HW.out (s.Ow+1) (s.own:Int)).mono (R':=λe w'=>e = .returned (.bool (bB s k (s.Ow+1) (s.own:Int)).1)/\Py W w' A X r d l (bB s k (s.Ow+1) (s.own:Int)).2.1 (bB s k (s.Ow+1) (s.own:Int)).2.2) KZ);have HWE:=af (jP HW.out (s.Ow+1) (s.own:Int) az az az (by have:=HW.out.own;omega));have HSE:=af (yK (s:=s) (k:=k) (s.Ow+1) (s.own:Int));have Ym:=af (fF HWE.out (bB s k (s.Ow+1) (s.own:Int)).2.1.lives 0 (bB s k (s.Ow+1) (s.own:Int)).2.1.OA ((List.replicate s.n false).set s.own true) (aH _) (by rw [HSE.out.1];simp) (ah _));simp only at HE;generalize bB s k (s.Ow+1) (s.own:Int)=p at *;obtain ⟨ok,s2,k2⟩:=p
  (try simp only at HE);(try simp only at Xm);(try simp only at HWE);(try simp only at HSE);(try simp only at Ym)
  have HKP:=af (λw2=>HKP.out w2 s2 k2);cases ok with
  | false =>
   rw [am bL] at HE;refine wp_region_held_drew (S:=λw'=>w'.cell? ⟨P,0,none⟩=some (.pointer (some ⟨r,0,none⟩))) dW XG (λaD=>?_);refine aJ 0 ?_;refine aJ 1 ?_;refine aJ 2 ?_;refine dh 3 λK hK=>?_;go_simp
   refine hK.out _ _ aD (λaD=>?_);clear hK K;refine bX ?_;refine aJ 4 ?_;refine aJ 5 ?_;refine aJ 6 ?_;refine aJ 7 ?_;refine aJ 8 ?_;refine aJ 9 ?_;refine aJ 12 ?_;refine aJ 13 ?_;refine aJ 14 ?_;refine mf 10 15 (λK hK=>?_) λK hK=>?_
   ·go_simp
    refine hK.out _ _ aD (λaD=>?_);clear hK K;refine bX ?_;refine aJ 11 ?_;refine dh 15 λK hK=>?_;go_simp
    refine hK.out _ _ aD (λaD=>?_);clear hK K;refine bX ?_;exact CD
   ·go_simp
    refine hK.out _ _ aD (λaD=>?_);clear hK K;refine bX ?_;refine dh 10 λK hK=>?_;go_simp
    refine hK.out _ _ aD (λaD=>?_);clear hK K;refine bX ?_;refine aJ 11 ?_;exact CD
  | true =>
   rw [ay rfl] at HE;go_cut [21] (λv wx=>v = .bool false/\Py W wx A X r d l s2 k2/\wx.cell? ⟨P,0,none⟩=some (.pointer (some ⟨r,0,none⟩)))
   case first =>
     refine wp_region_held_drew (S:=λw'=>w'.cell? ⟨P,0,none⟩=some (.pointer (some ⟨r,0,none⟩))) dW XG (λaD=>?_);refine aJ 0 ?_;refine aJ 1 ?_;refine aJ 2 ?_;refine dh 3 λK hK=>?_;go_simp
     refine hK.out _ _ aD (λaD=>?_);clear hK K;refine bX ?_;refine aJ 4 ?_;refine aJ 5 ?_;refine aJ 6 ?_;refine aJ 7 ?_;refine aJ 8 ?_;refine aJ 9 ?_;refine aJ 12 ?_;refine aJ 13 ?_;refine aJ 14 ?_;refine mf 10 15 (λK hK=>?_) λK hK=>?_
     ·go_simp
      refine hK.out _ _ aD (λaD=>?_);clear hK K;refine bX ?_;refine aJ 11 ?_;refine dh 15 λK hK=>?_;go_simp
      refine hK.out _ _ aD (λaD=>?_);clear hK K;refine bX ?_;exact CC
     ·go_simp
      refine hK.out _ _ aD (λaD=>?_);clear hK K;refine bX ?_;refine dh 10 λK hK=>?_;go_simp
      refine hK.out _ _ aD (λaD=>?_);clear hK K;refine bX ?_;refine aJ 11 ?_;exact CC
   case rest =>
   obtain ⟨rfl,T5,hP3⟩:=hcut;rename World=>w3;obtain ⟨A3,X3,h3,m3⟩:=T5;have H3:=af h3;have M3:=af (QU.out.trans m3);obtain ⟨vl,gv,gn,gm,gh,hcell⟩:=h3.cells;have T9:w3.cell? ⟨r,15,none⟩=some (.int .i64 (s2.Ox:Int)):=iI;have TY:=aU hcell 15;have hrlt:=bg hcell;have HPX:Hid (∀b∈X3,b≠P):=af (λb hb e=>by
     subst e;rcases m3.mv.gr b hb with h4 | h4
     · exact HPN.out b h4 rfl
     · omega)
   have HT:Hid (Py w3 (w3.setCell ⟨r,15,none⟩ (.int .i64 0)) A3 X3 r d l { s2 with Ox:=0 } k2):=af (by
     refine Nd.TV h3 ((Only.refl _ _).setCell bL _) ?_ rfl rfl rfl rfl rfl rfl;intro vl gv gn gm gh hc;rw [be hc];rfl)
   have hrP:r≠P:=HPX.out r h3.rX;have HP3:Hid (P<w3.heap.size):=af (by have:=m3.mv.only.size;omega);clear h3 m3 hcell hc0 Re hP0 XG g1 q1 Xm HKP;go_upto_region 4 with (fail)
   have Rb:Only [r] w3 (w3.setCell ⟨r,15,none⟩ (.int .i64 0)):=(Only.refl _ _).setCell bL _;have hP4:=Rb.cell hP3 GZ;obtain ⟨A4,X4,h4,m4⟩:=HT.out;have M4:=af (M3.out.trans m4);have HPX4:Hid (∀b∈X4,b≠P):=af (λb hb e=>by
     rcases m4.mv.gr b hb with h5 | h5
     · exact HPX.out b h5 e
     · have:=Rb.size;have:=HP3.out;omega)
   have HP4s:Hid (P<(w3.setCell ⟨r,15,none⟩ (.int .i64 0)).heap.size):=af (by have:=Rb.size;have:=HP3.out;omega);clear Rb T9 TY hP3 m4;generalize w3.setCell ⟨r,15,none⟩ (.int .i64 0)=W4 at *;have h4:=h4.below (aB W4 1);have M4:=af (M4.out.trans (Mv.below (A:=A4) (X:=X4) (aB W4 1)));have hP4:W4.drew.cell? ⟨P,0,none⟩=some (.pointer (some ⟨r,0,none⟩)):=hP4;have HP4s:Hid (P<W4.drew.heap.size):=HP4s;have ZI:s2.n=s.n:=HSE.out.1;have YG:s2.own=s.own:=HSE.out.2.1;change Nd W4.drew A4 X4 r d l { s2 with Ox:=0 } k2 at h4;change Hid (Mv A A4 X X4 w W4.drew) at M4;have HM4:=af (λW=>Nd.VI h4 (List.replicate s.n false) s.n ZI W);obtain ⟨vl,gv,gn,gm,gh,hcell⟩:=h4.cells;have hc1:W4.drew.cell? ⟨r,1,none⟩=some (.int .i64 (s.n:Int)):=by rw [ap hcell,<-ZI];rfl
   have Ua:W4.drew.cell? ⟨r,12,none⟩=some (tT gv s2.n):=iI;have hz12:=aU hcell 12;have hmk:=qX s.n O8;have hrl4:=bg hcell;have Yp:Hid (∀v,(W4.drew.alloc (.cells (eg (List.replicate s.n false)) 4)).cell? ⟨P,0,none⟩=some (.pointer (some ⟨r,0,none⟩))/\(W4.drew.alloc (.cells (eg (List.replicate s.n false)) 4)).cell? ⟨r,1,none⟩=some (.int .i64 (s.n:Int))/\((W4.drew.alloc (.cells (eg (List.replicate s.n false)) 4)).setCell ⟨r,12,none⟩ v).cell? ⟨P,0,none⟩=some (.pointer (some ⟨r,0,none⟩))/\((W4.drew.alloc (.cells (eg (List.replicate s.n false)) 4)).setCell ⟨r,12,none⟩ v).cell? ⟨r,1,none⟩=some (.int .i64 (s.n:Int))):=af (λv=>by
     have hb:Below W4.drew.heap.size W4.drew (W4.drew.alloc (.cells (eg (List.replicate s.n false)) 4)):=(aG _ _).alloc (ah _) _;have e1:=cell_later hb hP4;have ho:Only [r] (W4.drew.alloc (.cells (eg (List.replicate s.n false)) 4)) ((W4.drew.alloc (.cells (eg (List.replicate s.n false)) 4)).setCell ⟨r,12,none⟩ v):=(Only.refl _ _).setCell bL _;have hh:=bD hcell (.cells (eg (List.replicate s.n false)) 4);refine ⟨e1,cell_later hb hc1,ho.cell e1 GZ,?_⟩;rw [ap (be hh 12 v),<-ZI];rfl)
   have hcz:(W4.drew.alloc (.cells (eg (List.replicate s.n false)) 4)).cell? ⟨r,12,none⟩=some (tT gv s2.n):=by rw [ap (bD hcell (.cells (eg (List.replicate s.n false)) 4))];rfl
   have hzz:(W4.drew.alloc (.cells (eg (List.replicate s.n false)) 4)).frozen? ⟨r,12,none⟩=false:=aU (bD hcell (.cells (eg (List.replicate s.n false)) 4)) 12;clear h4 hcell Ua hz12;refine wp_region_held_drew (S:=λw'=>w'.cell? ⟨P,0,none⟩=some (.pointer (some ⟨r,0,none⟩))/\w'.cell? ⟨r,1,none⟩=some (.int .i64 (s.n:Int))) dW ⟨hP4,hc1⟩ (λaD=>?_);refine aJ 0 ?_;refine aJ 1 ?_;refine aJ 2 ?_;refine aJ 3 ?_;refine aJ 4 ?_;generalize W4.drew=V4 at *;refine dh 5 λK hK=>?_;go_simp
   refine hK.out _ _ ⟨(Yp.out undef).1,(Yp.out undef).2.1⟩ (λaD=>?_);clear hK K;refine bX ?_;generalize XX:V4.alloc (.cells (eg (List.replicate s.n false)) 4)=V5 at *;have hnv:V5.heap.size=V4.heap.size+1:=by rw [<-XX];simp
   refine aJ 6 ?_;refine aJ 7 ?_;refine dh 8 λK hK=>?_;go_simp
   refine hK.out _ _ ⟨(Yp.out _).2.2.1,(Yp.out _).2.2.2⟩ (λaD=>?_);clear hK K;refine bX ?_;refine iX ?_;clear aD;obtain ⟨A5,X5,h5,m5⟩:=HM4.out _ rfl;have hP5:=(Yp.out (.slice (some ⟨V4.heap.size,0,none⟩) s.n s.n)).2.2.1;have M5:=af (M4.out.trans m5);have HPX5:Hid (∀b∈X5,b≠P):=af (λb hb e=>by
     rcases m5.mv.gr b hb with h6 | h6
     · exact HPX4.out b h6 e
     · have:=HP4s.out;omega)
   go_upto_region 5 with (fail)
   clear hcz hzz HM4 Yp hc1 hP4 hmk;generalize V5.setCell ⟨r,12,none⟩ (.slice (some ⟨V4.heap.size,0,none⟩) s.n s.n)=W5 at *;have h5:=h5.below (aB W5 1);have M5:=af (M5.out.trans (Mv.below (A:=A5) (X:=X5) (aB W5 1)));have hP5:(W5.drewN 1).cell? ⟨P,0,none⟩=some (.pointer (some ⟨r,0,none⟩)):=hP5;change (W5.drew).cell? ⟨P,0,none⟩=some (.pointer (some ⟨r,0,none⟩)) at hP5;change Nd W5.drew A5 X5 r d l { s2 with Ox:=0,OB:=List.replicate s.n false } k2 at h5;change Hid (Mv A A5 X X5 w W5.drew) at M5;obtain ⟨D,L,R,vl,gv,gn,gm,gh,h6,hX6⟩:=h5;have Ua:W5.drew.cell? ⟨r,12,none⟩=some (.slice (some ⟨gv,0,none⟩) s.n s.n):=by rw [ap h6.cell,<-ZI];rfl
   have hc0:W5.drew.cell? ⟨r,0,none⟩=some (.int .i64 (s.own:Int)):=by rw [ap h6.cell,<-YG];rfl
   have hown:(s.own:Int)<(s.n:Int):=by have:=HW.out.own;omega
   have hcv:W5.drew.cell? ⟨gv,s.own,none⟩=some (.bool ((List.replicate s.n false).getD s.own false)):=by rw [ap h6.OB];exact pC _ _ gD
   have hzv:=aU h6.OB s.own;have hPgv:P≠gv:=λe=>HPX5.out gv ((hX6 gv).2 (.inr (.inr h6.vR))) e.symm;have Xw:r≠gv:=cQ h6.cell h6.OB dZ;have HK5:Hid (∀v,(W5.drew.setCell ⟨gv,s.own,none⟩ v).cell? ⟨P,0,none⟩=some (.pointer (some ⟨r,0,none⟩))/\(W5.drew.setCell ⟨gv,s.own,none⟩ v).cell? ⟨r,12,none⟩=some (.slice (some ⟨gv,0,none⟩) s.n s.n)/\(W5.drew.setCell ⟨gv,s.own,none⟩ v).cell? ⟨r,0,none⟩=some (.int .i64 (s.own:Int))):=af (λv=>by
     have ho:Only [gv] W5.drew (W5.drew.setCell ⟨gv,s.own,none⟩ v):=(Only.refl _ _).setCell bL _;exact ⟨ho.cell hP5 (by simpa using hPgv),ho.cell Ua (by simpa using Xw),ho.cell hc0 (by simpa using Xw)⟩)
   have H7:Hid (Py W5.drew (W5.drew.setCell ⟨gv,s.own,none⟩ (.bool true)) A5 X5 r d l { s2 with Ox:=0,OB:=(List.replicate s.n false).set s.own true } k2):=af ((h6.Uk s.own true).ndpR hX6 (S:=[gv]) ((Only.refl _ _).setCell bL _) (λb hb=>by rw [aj.1 hb];exact h6.vR));clear h6 hX6 hPgv Xw;refine wp_region_held_drew (S:=λw'=>w'.cell? ⟨P,0,none⟩=some (.pointer (some ⟨r,0,none⟩))/\w'.cell? ⟨r,12,none⟩=some (.slice (some ⟨gv,0,none⟩) s.n s.n)/\w'.cell? ⟨r,0,none⟩=some (.int .i64 (s.own:Int))) dW ⟨hP5,Ua,hc0⟩ (λaD=>?_);refine aJ 0 ?_;refine aJ 1 ?_;refine aJ 2 ?_;refine aJ 3 ?_;refine aJ 4 ?_;refine aJ 5 ?_;refine aJ 6 ?_;refine aJ 7 ?_;refine aJ 8 ?_;generalize W5.drew=V5b at *;refine dh 9 λK hK=>?_;go_simp
   refine hK.out _ _ (HK5.out _) (λaD=>?_);clear hK K;refine bX ?_;refine iX ?_;clear aD;have hP8:=(HK5.out (.bool true)).1;generalize V5b.setCell ⟨gv,s.own,none⟩ (.bool true)=W8 at *;obtain ⟨A7,X7,h7,m7⟩:=H7.out;have H7:=af h7;have M7:=af (M5.out.trans m7);clear h7 m7 Ua hc0 hcv hzv hP5;have Ym:Hid (Wf { s2 with Ox:=0,OB:=(List.replicate s.n false).set s.own true } k2):=Ym;have Pz:s2.Oz.length<=1000000:=by have:=Ym.out.QV;have h9:s2.Oz.length<=87381:=this;omega
   have HCH:=af (rG H7.out Ym.out.n5 Ym.out.vl)
   (try simp only at HE)
   generalize hs7:({ s2 with Ox:=0,OB:=(List.replicate s.n false).set s.own true }:Rp)=s7 at *;have Xj:Hid (s7.Oz.length<=1000000):=af (by rw [<-hs7];exact Pz);clear hs7;go_wp2_with fail
   refine HCH.out.mono ?_;rintro e w9 ⟨rfl,rfl⟩;cases hch:gI s7 with
   | true =>
     rw [hch,ay rfl] at HE;go_wp2_with fail
     refine (vX H7.out Ym.out).mono ?_;rintro e w9 Rn;obtain ⟨v9,A9,X9,rfl,h9,ho9,m9⟩:=Rn;have HF:=af (PE.trans M7.out ⟨v9,A9,X9,rfl,h9,ho9,m9⟩);clear h9 ho9 m9;exact qW
   | false =>
     rw [hch,am bL] at HE;go_wp2_with fail
     refine (si H7.out Ym.out.n5 Xj.out P hP8).mono ?_;rintro e w9 ⟨v9,rfl,ho9,hb9⟩;have HF:=af (PE.trans M7.out (ip H7.out ho9 hb9));clear ho9 hb9;exact qW
end
section
variable {w w':World} {A A' X X':List Nat} {r d l:Nat} {s s':Rp} {k k':Dk}
theorem xE (h:eG s k=true):eM s k=([],bw s k,k):=by
 unfold eM;simp only;rw [ay (by exact h)]
theorem uY (h:eG s k=false) (hl:s.Oy=true):eM s k=(dB { bw s k with OA:=s.OA+1 } (cF { bw s k with OA:=s.OA+1 }),{ bw s k with OA:=s.OA+1 },k):=by
 unfold eM;simp only;rw [am (by show ¬eG s k=true;rw [h];decide),ay (by exact hl)];rfl
def C1 (s:Rp) (k:Dk):Rp:={ bw s k with OA:=s.OA+1,Ox:=s.Ox+1 }
theorem Ao (h:eG s k=false) (hl:s.Oy=false):eM s k=(if 8<=s.Ox+1/\lC (C1 s k)=true then gZ (C1 s k) k else if 4<=s.Ox+1 then (dB (C1 s k) (br (C1 s k) 5),C1 s k,k) else ([],C1 s k,k)):=by
 unfold eM;simp only;rw [am (by show ¬eG s k=true;rw [h];decide),am (by show ¬s.Oy=true;rw [hl];decide)];rfl
theorem C6 (h:Nd w A X r d l s k) (hw:Wf s k) (hck:s.OA+1<=1000000):Calls Tryz.prog 38 #[.pointer (some ⟨r,0,none⟩)] w λe w'=>PE w w' A X r d l e (eM s k):=by
 have Pe:Below w.heap.size w (w.alloc (.cells #[.pointer (some ⟨r,0,none⟩)] 53)):=(aG _ _).alloc (ah _) _;have P0:=aV w (.cells #[.pointer (some ⟨r,0,none⟩)] 53);have h1:=h.below Pe;have QU:Hid (Mv A A X X w (w.alloc (.cells #[.pointer (some ⟨r,0,none⟩)] 53))):=af (Mv.below Pe);have hP0:(w.alloc (.cells #[.pointer (some ⟨r,0,none⟩)] 53)).cell? ⟨w.heap.size,0,none⟩=some (.pointer (some ⟨r,0,none⟩)):=jn;have hrP:r≠w.heap.size:=by have:=h.alt r (h.xA r h.rX);omega
 have HRX:=af h.rX;have HD:=af (ke h1);have HWD:=af (iC hw);have HTD:=af (xE (s:=s) (k:=k));have HTL:=af (uY (s:=s) (k:=k));have HTN:=af (Ao (s:=s) (k:=k));have UW:=hw.tick;clear h Pe P0 h1 hw;go_enter Tryz.func38,Tryz.ntmps38
 go_wp2_with fail
 generalize w.alloc (.cells #[.pointer (some ⟨r,0,none⟩)] 53)=W at *;generalize w.heap.size=P at *;refine HD.out.mono ?_;rintro e w2 ⟨rfl,Pf,OZ⟩;have hP2:=OZ.cell hP0 GZ;have H2:=af Pf;have M2:=af (QU.out.trans (Mv.only (A:=A) OZ (by simpa using HRX.out)));obtain ⟨vl,gv,gn,gm,gh,hcell⟩:=Pf.cells;have hc16:w2.cell? ⟨r,16,none⟩=some (.int .i64 (s.OA:Int)):=iI;have T9:w2.cell? ⟨r,15,none⟩=some (.int .i64 (s.Ox:Int)):=iI;have Qh:w2.cell? ⟨r,11,none⟩=some (.bool s.Oy):=iI;have hz16:=aU hcell 16;have TY:=aU hcell 15;have q1:IntKind.i64.wrap ((s.OA:Int)+1)=(s.OA:Int)+1:=IntWalk.i64_in _ az;have q2:IntKind.i64.wrap ((s.Ox:Int)+1)=(s.Ox:Int)+1:=IntWalk.i64_in _ az;clear Pf OZ hP0 HD hcell;cases P5:eG s k with
 | true =>
  have HE:=af (HTD.out P5);go_wp2_with fail
  go_ret
  rw [HE.out];exact PE.none (H2.out.VJ M2.out)
 | false =>
  cases P9:s.Oy with
  | true =>
   have HE:=af (HTL.out P5 P9);rw [P9] at Qh;have SN:=af (fF HWD.out s.lives s.Ox (s.OA+1) s.OB (Nat.le_succ_of_le UW) HWD.out.vl (cZ _));have H3:Hid (Py w2 (w2.setCell ⟨r,16,none⟩ (.int .i64 ((s.OA:Int)+1))) A X r d l { bw s k with OA:=s.OA+1 } k):=af (by
    refine Nd.TV H2.out ((Only.refl _ _).setCell bL _) ?_ rfl rfl rfl rfl rfl rfl;intro vl gv gn gm gh hc;rw [be hc];rfl)
   have Xk:Hid (({ bw s k with OA:=s.OA+1 }:Rp).Oy=true):=af P9;have SN:Hid (Wf { bw s k with OA:=s.OA+1 } k):=SN;go_wp2_with fail
   obtain ⟨A3,X3,h3,m3⟩:=H3.out;have M3:=af (M2.out.trans m3);refine (iA h3 SN.out.n5 SN.out (λi _=>(SN.out.lead Xk.out i).1)).mono ?_;rintro e w4 ⟨v4,rfl,Rb,hb4⟩;have HF:=af (PE.trans M3.out (ip h3 Rb hb4));clear Rb hb4 h3 m3;exact qW
  | false =>
   have HE:=af (HTN.out P5 P9);rw [P9] at Qh;have SN:Hid (Wf (C1 s k) k):=af (fF HWD.out s.lives (s.Ox+1) (s.OA+1) s.OB az HWD.out.vl (cZ _));have H3:Hid (Py w2 ((w2.setCell ⟨r,16,none⟩ (.int .i64 ((s.OA:Int)+1))).setCell ⟨r,15,none⟩ (.int .i64 ((s.Ox:Int)+1))) A X r d l (C1 s k) k):=af (by
    refine Nd.TV H2.out (((Only.refl _ _).setCell bL _).setCell bL _) ?_ rfl rfl rfl rfl rfl rfl;intro vl gv gn gm gh hc;rw [be (be hc 16 _) 15 _];rfl)
   have hP3:((w2.setCell ⟨r,16,none⟩ (.int .i64 ((s.OA:Int)+1))).setCell ⟨r,15,none⟩ (.int .i64 ((s.Ox:Int)+1))).cell? ⟨P,0,none⟩=some (.pointer (some ⟨r,0,none⟩)):=(((Only.refl [r] _).setCell (p:=⟨r,16,none⟩) bL _).setCell (p:=⟨r,15,none⟩) bL _).cell hP2 GZ;have HCK:Hid ((C1 s k).OA<=1000000):=af hck;have Xj:Hid ((C1 s k).Oz.length<=1000000):=af (by have:=SN.out.QV;omega);by_cases h8:8<=s.Ox+1
   ·have g8:(8:Int)<=(s.Ox:Int)+1:=by omega
    have g4:(4:Int)<=(s.Ox:Int)+1:=az;go_wp2_with fail
    obtain ⟨A3,X3,h3,m3⟩:=H3.out;have H3:=af h3;have M3:=af (M2.out.trans m3);refine (FH h3 SN.out HCK.out).mono ?_;rintro e w4 ⟨rfl,hb4⟩;have H4:=af (H3.out.below hb4);have M4:=af (M3.out.trans (Mv.below (A:=A3) (X:=X3) hb4));have hP4:=cell_later hb4 hP3;obtain ⟨vl,gv,gn,gm,gh,hcell⟩:=H4.out.cells;have hk15:w4.cell? ⟨r,15,none⟩=some (.int .i64 ((s.Ox:Int)+1)):=iI;clear h3 m3 hb4 hcell hP3 T9 hc16 Qh TY hz16;cases Yc:lC (C1 s k) with
    | true =>
     rw [ay ⟨h8,Yc⟩] at HE;go_wp2_with fail
     refine (AB H4.out SN.out).mono ?_;rintro e w5 ⟨v5,A5,X5,rfl,h5,PS,m5⟩;have HF:=af (PE.trans M4.out ⟨v5,A5,X5,rfl,h5,PS,m5⟩);clear h5 PS m5;exact qW
    | false =>
     rw [am (by rw [Yc];simp),ay az] at HE;go_wp2_with fail
     refine (n7 H4.out SN.out.n5 Xj.out P hP4).mono ?_;rintro e w5 ⟨v5,rfl,PS,PA⟩;have HF:=af (PE.trans M4.out (ip H4.out PS PA));clear PS PA;exact qW
   ·have g8:¬(8:Int)<=(s.Ox:Int)+1:=by omega
    rw [am (λh=>h8 h.1)] at HE;by_cases h4:4<=s.Ox+1
    ·have g4:(4:Int)<=(s.Ox:Int)+1:=by omega
     rw [ay h4] at HE;obtain ⟨A3,X3,h3,m3⟩:=H3.out;have H3:=af h3;have M3:=af (M2.out.trans m3);clear h3 m3;go_wp2_with fail
     refine (n7 H3.out SN.out.n5 Xj.out P hP3).mono ?_;rintro e w5 ⟨v5,rfl,PS,PA⟩;have HF:=af (PE.trans M3.out (ip H3.out PS PA));clear PS PA;exact qW
    ·have g4:¬(4:Int)<=(s.Ox:Int)+1:=by omega
     rw [am h4] at HE;go_wp2_with fail
     go_ret
     rw [HE.out];exact PE.none (Py.trans M2.out H3.out)
end
section
variable {w w':World} {A A' X X':List Nat} {r d l:Nat} {s s':Rp} {k k':Dk}
def kF (s:Rp) (k:Dk):Bool×Rp:=if s.Oy then (!eG s k,bw s k) else (false,s)
theorem Bw (h:Nd w A X r d l s k):Calls Tryz.prog 33 #[.pointer (some ⟨r,0,none⟩)] w λe w'=>e = .returned (.bool (kF s k).1)/\Nd w' A X r d l (kF s k).2 k/\Only [r] w w':=by
 obtain ⟨vl,gv,gn,gm,gh,hcell⟩:=h.cells;have Qh:w.cell? ⟨r,11,none⟩=some (.bool s.Oy):=iI;have HD:=af (ke h);have H:=af h;clear h hcell;cases hl:s.Oy with
 | true =>
  have HE:Hid (kF s k=(!eG s k,bw s k)):=af (by unfold kF;rw [ay hl]);rw [hl] at Qh;go_enter Tryz.func33,Tryz.ntmps33
  go_wp2_with fail
  refine HD.out.mono ?_;rintro e w2 ⟨rfl,Pf,OZ⟩;have QT:=af Pf;have QL:=af OZ;clear Pf OZ;go_wp2_with fail
  go_ret
  rw [HE.out];exact ⟨rfl,QT.out,QL.out⟩
 | false =>
  have HE:Hid (kF s k=(false,s)):=af (by unfold kF;rw [am (by rw [hl];decide)]);rw [hl] at Qh;go_enter Tryz.func33,Tryz.ntmps33
  go_wp2_with fail
  go_ret
  rw [HE.out];exact ⟨rfl,H.out,Only.refl _ _⟩
end
theorem Fy (w:World) (t:ByteArray):∃c w',(convert 9 31 (.string t)).run Tryz.prog w = .ok (.slice (some ⟨w.heap.size,0,none⟩) t.size c) w'/\Below w.heap.size w w'/\∀A,(∀b∈A,b<w.heap.size)->Qi w' A (.slice (some ⟨w.heap.size,0,none⟩) t.size c) t.data.toList:=by
 have hr:=run_bytes_of_string (P:=Tryz.prog) w 9 31 5 t dW dW dW;refine ⟨_,_,hr,(aB w 1).alloc (ah _) _,λA hA=>?_⟩;have hl:t.data.toList.length=t.size:=sq;have hhp:(w.drew.alloc (.cells (bytesRow t (grownCap w t.size 0 5)) 5 ((bytesRow t (grownCap w t.size 0 5)).size,(bytesRow t (grownCap w t.size 0 5)).size+1))).heap[w.heap.size]? = _:=aV w.drew _;refine ⟨some ⟨w.heap.size,0,none⟩,_,by rw [hl],?_,?_,λp hp=>?_⟩
 ·rw [hl];refine ⟨hl,(λe=>by cases e),?_⟩;refine .inr ⟨w.heap.size,0,rfl,λi hi=>?_⟩;rw [ap hhp,cB,bytesRow_at t _ i hi];rw [aL,ft,xp hi];rfl
 ·rw [hl];exact grownCap_ge w t.size 0 5
 ·cases hp;exact ⟨λhm=>by have:=hA _ hm;simp at this,by simp⟩
theorem pN (t who:Int):ez t who=iy 1++(iy t++(iy who++[])):=by unfold ez kL;rfl
theorem pP (p:Nat) (x:Po):dY p x=iy 2++(iy (p:Int)++(iy x.Ow++(Cj (gB x.bs)++[]))):=by
 rw [u9];unfold dY kL;simp [bS]
section
variable {w0 w w':World} {A A' X X':List Nat} {r d l:Nat} {s s':Rp} {k k':Dk} {T:Nat->Prop}
theorem AZ (h:Nd w0 A X r d l s k) (hb:Below w0.heap.size w0 w) (a:Nat) (ha:w0.heap.size<=a) (t who:Int) (hr:U0 w a T (ez t who) false) (h1:s.Ow<=t) (h10:0<=t) (h2:t<=1099511627776) (h3 : -1<=who) (h4:who<s.n) (h5:s.n<=5) :
  Calls Tryz.prog 58 #[.pointer (some ⟨r,0,none⟩),.pointer (some ⟨a,0,none⟩)] w λe w'=>e = .returned (.bool true)/\Py w0 w' A X r d l { s with Ow:=t,OC:=who } k:=by
 have H:=af h;have HS:Hid (∀w1 w2,Below w0.heap.size w0 w1->Only [a] w1 w2->Below w0.heap.size w0 w2):=af (λw1 w2 hb ho=>hb.trans (ho.below hb.size (by simpa using ha)));have HB:=af hb;have HR:=af hr;rw [pN] at HR;clear h hb hr;go_enter Tryz.func58,Tryz.ntmps58
 go_wp2_with fail
 refine (ik a _ false w HR.out (by simp [ie])).mono ?_;rintro e w1 ⟨rfl,hr1,Vt⟩;rw [mF 1 _ false az az] at hr1 ⊢;have XL:=af hr1;have PK:=af (HS.out _ _ HB.out Vt);clear hr1 Vt;go_wp2_with fail
 refine (ik a _ false w1 XL.out (by simp [ie])).mono ?_;rintro e w2 ⟨rfl,hr2,OZ⟩;rw [mF t _ false az az] at hr2 ⊢;have HR2:=af hr2;have O5:=af (HS.out _ _ PK.out OZ);clear hr2 OZ;go_wp2_with fail
 refine (ik a _ false w2 HR2.out (by simp [ie])).mono ?_;rintro e w3 ⟨rfl,hr3,RD⟩;rw [mF who _ false az az] at hr3 ⊢;have HR3:=af hr3;have Pk:=af (HS.out _ _ O5.out RD);clear hr3 RD;go_wp2_with fail
 refine (zW a _ false w3 HR3.out).mono ?_;rintro e w4 ⟨rfl,rfl⟩;have H3:=af (H.out.below Pk.out);have HBX:=Pk;obtain ⟨vl,gv,gn,gm,gh,hcell⟩:=H3.out.cells;have Re:w3.cell? ⟨r,6,none⟩=some (.int .i64 s.Ow):=iI;have hc7:w3.cell? ⟨r,7,none⟩=some (.int .i64 s.OC):=iI;have hc1:w3.cell? ⟨r,1,none⟩=some (.int .i64 (s.n:Int)):=iI;have hz6:=aU hcell 6;have hz7:=aU hcell 7;have g1:¬t<s.Ow:=az;have g2:¬(1099511627776:Int)<t:=az;have g3:¬who < -1:=az;have g4:¬(s.n:Int)<=who:=az;clear hcell HB PK O5 HR XL HR2 HR3 h1 h10 h2 h3 h4 h5 HS;go_wp2_with fail
 go_ret
 refine ⟨rfl,Py.trans (Mv.below HBX.out) (Nd.TV H3.out ?_ ?_ rfl rfl rfl rfl rfl rfl)⟩
 ·exact Ea
 ·intro vl gv gn gm gh hc;rw [be (be hc 6 _) 7 _];simp [fs]
theorem Ba (h:Nd w0 A X r d l s k) (hb:Below w0.heap.size w0 w) (a:Nat) (ha:w0.heap.size<=a) (p:Nat) (x:Po) (hr:U0 w a T (dY p x) false) (h1:p<=s.Oz.length) (h2:1<=x.Ow) (h3:x.Ow<=s.Ow) (h4:x.bs.length<=8000) (h5:s.Oz.length<=1000000) (h6:s.Ow<=1099511627776) :
  Calls Tryz.prog 58 #[.pointer (some ⟨r,0,none⟩),.pointer (some ⟨a,0,none⟩)] w λe w'=>e = .returned (.bool true)/\Py w0 w' A X r d l { s with Oz:=s.Oz.take p++[x]} k:=by
 have H:=af h;have HS:Hid (∀w1 w2,Below w0.heap.size w0 w1->Only [a] w1 w2->Below w0.heap.size w0 w2):=af (λw1 w2 hb ho=>hb.trans (ho.below hb.size (by simpa using ha)));have HB:=af hb;have HR:=af hr;rw [pP] at HR;have hts:(gB x.bs).size=x.bs.length:=Ax _;have htl:(gB x.bs).data.toList=x.bs:=by simp [gB]
 have HTL:=af htl;have hlen:(iy 2++(iy (p:Int)++(iy x.Ow++(Cj (gB x.bs)++[])))).length<=100000:=by rw [<-pP,i7];omega
 have hlen1:(iy (p:Int)++(iy x.Ow++(Cj (gB x.bs)++[]))).length<=100000:=by rw [aE] at hlen;omega
 have WS:(iy x.Ow++(Cj (gB x.bs)++[])).length<=100000:=by rw [aE] at hlen1;omega
 have hlen3:(Cj (gB x.bs)++[]).length<=100000:=by rw [aE] at WS;omega
 have HXB:Hid (x.bs.length<=8000):=af h4;have HPL:Hid (p<=s.Oz.length/\s.Oz.length<=1000000):=af ⟨h1,h5⟩;clear h hb hr htl;generalize SV:gB x.bs=tb at *;have htb2:tb.size<=8000:=az;clear SV hts;go_enter Tryz.func58,Tryz.ntmps58
 go_wp2_with fail
 refine (ik a _ false w HR.out az).mono ?_;rintro e w1 ⟨rfl,hr1,Vt⟩;rw [mF 2 _ false az az] at hr1 ⊢;have XL:=af hr1;have PK:=af (HS.out _ _ HB.out Vt);clear hr1 Vt;go_wp2_with fail
 refine (ik a _ false w1 XL.out az).mono ?_;rintro e w2 ⟨rfl,hr2,OZ⟩;rw [mF (p:Int) _ false az az] at hr2 ⊢;have HR2:=af hr2;have O5:=af (HS.out _ _ PK.out OZ);clear hr2 OZ;go_wp2_with fail
 refine (ik a _ false w2 HR2.out az).mono ?_;rintro e w3 ⟨rfl,hr3,RD⟩;rw [mF x.Ow _ false az az] at hr3 ⊢;have HR3:=af hr3;have Pk:=af (HS.out _ _ O5.out RD);clear hr3 RD;go_wp2_with fail
 refine (xP a _ false 8000 w3 HR3.out az).mono ?_;rintro e w4 ⟨rfl,hr4,Rb⟩;rw [Ke tb [] false 8000 az az] at hr4 ⊢;have HR4:=af hr4;have TA:=af (HS.out _ _ Pk.out Rb);clear hr4 Rb;go_wp2_with fail
 refine (zW a _ false w4 HR4.out).mono ?_;rintro e w5 ⟨rfl,rfl⟩;obtain ⟨D,L,R,vl,gv,gn,gm,gh,h4n,TT⟩:=H.out.below TA.out;have HX4:=af TT;have HC4:=af h4n;have Re:w4.cell? ⟨r,6,none⟩=some (.int .i64 s.Ow):=by rw [ap h4n.cell];rfl
 obtain ⟨al,cl,evl,Sw,hcm,UY,hcg⟩:=qj h4n.Oz;subst evl;have Rq:w4.cell? ⟨r,8,none⟩=some (.slice al s.Oz.length cl):=by rw [ap h4n.cell];rfl
 have g1:¬(p:Int)<0:=az;have g2:¬(s.Oz.length:Int)<(p:Int):=az;have g3:¬x.Ow<1:=az;have g4:¬s.Ow<x.Ow:=az;have hpc:p<=cl:=aF h1 Sw;have HCN:=af UY;have HCG:=af hcg;have HAL:=af h4n.wd.alt;have Tz:Hid (∀w',Below w4.heap.size w4 w'->w'.cell? ⟨r,8,none⟩=some (.slice al s.Oz.length cl)):=af (λw' hb=>cell_later hb Rq);clear HB PK O5 Pk HR XL HR2 HR3 HR4 hlen hlen1 WS hlen3 h2 h3 h5 h6 HS h4n TT UY hcg;obtain ⟨c5,W5,hcv,PA,hi5⟩:=Fy w4 tb;have RG:=Tz.out _ PA;have HC5:=af (HC4.out.below PA);have HU5:=af (hi5 A HAL.out);rw [HTL.out] at HU5;have Q6:=af PA;have HSZ:Hid (w4.heap.size<=W5.heap.size):=af PA.size;clear PA hi5;go_upto_region 12 with (fail)
 have TQ:Hid (Below W5.heap.size W5 (W5.alloc (.cells #[.int .i64 x.Ow,.slice (some ⟨w4.heap.size,0,none⟩) tb.size c5] 94))):=af ((aG _ _).alloc (ah _) _);have HX6:=af (aV W5 (.cells #[.int .i64 x.Ow,.slice (some ⟨w4.heap.size,0,none⟩) tb.size c5] 94));have HC6:=af (HC5.out.below TQ.out);have HU6:=af (HU5.out.below TQ.out);go_wp2_with (at_builtin;refine jB rfl (.tmp 96) (.tmp 101) rfl HC6.out.Oz p HPL.out.1 HPL.out.2 (y:=x) HX6.out HU6.out HC6.out.wd.alt jy jy ?_)
 intro c7 Ud he7;have HE7:=af he7;have hB7a:=(Q6.out.alloc Q6.out.size (.cells #[.int .i64 x.Ow,.slice (some ⟨w4.heap.size,0,none⟩) tb.size c5] 94))
 have hB7b:=hB7a.alloc hB7a.size (.cells Ud 94);have hC7a:QK ((W5.alloc (.cells #[.int .i64 x.Ow,.slice (some ⟨w4.heap.size,0,none⟩) tb.size c5] 94)).alloc (.cells Ud 94)) A D L R r d l s k (.slice al s.Oz.length cl) gv gn gm gh:=HC6.out.below ((aG _ _).alloc (ah _) _);have HC7:=af (hC7a.below (aB _ 1));have ZA:=af (hB7b.trans ((aB _ 1).mono hB7b.size));have hs1:w4.heap.size<=W5.heap.size+1:=by have:=HSZ.out;omega
 have hs2:W5.heap.size+1<(((W5.alloc (.cells #[.int .i64 x.Ow,.slice (some ⟨w4.heap.size,0,none⟩) tb.size c5] 94)).alloc (.cells Ud 94)).drewN 1).heap.size:=bL;have ZF:(((W5.alloc (.cells #[.int .i64 x.Ow,.slice (some ⟨w4.heap.size,0,none⟩) tb.size c5] 94)).alloc (.cells Ud 94)).drewN 1).cell? ⟨r,8,none⟩=some (.slice al s.Oz.length cl):=by rw [ap HC7.out.cell];rfl
 have hz8:=aU HC7.out.cell 8;have HE7:Hid (Xe (((W5.alloc (.cells #[.int .i64 x.Ow,.slice (some ⟨w4.heap.size,0,none⟩) tb.size c5] 94)).alloc (.cells Ud 94)).drewN 1) A (.slice (some ⟨W5.heap.size+1,0,none⟩) (p+1) c7) (s.Oz.take p++[x])):=HE7;clear he7 hB7a hB7b hC7a RG;change wpList _ _ _ _ _ (((W5.alloc (.cells #[.int .i64 x.Ow,.slice (some ⟨w4.heap.size,0,none⟩) tb.size c5] 94)).alloc (.cells Ud 94)).drewN 1);generalize ((W5.alloc (.cells #[.int .i64 x.Ow,.slice (some ⟨w4.heap.size,0,none⟩) tb.size c5] 94)).alloc (.cells Ud 94)).drewN 1=w7 at *;go_wp2_with fail
 go_ret
 exact ⟨rfl,Py.trans (Mv.below TA.out) (sJ HX4.out ZA.out HC7.out HE7.out hs1 hs2)⟩
end
inductive O3 where
 | t (Ow who:Int)
 | e (place:Nat) (x:Po)
def O3.bytes:O3->List UInt8
 | .t a b=>ez a b
 | .e p x=>dY p x
def ep (s:Rp):O3->Rp
 | .t a b=>{ s with Ow:=a,OC:=b }
 | .e p x=>{ s with Oz:=s.Oz.take p++[x]}
def li (s:Rp):O3->Prop
 | .t a b=>s.Ow<=a/\a<=1099511627776 /\ -1<=b/\b<s.n
 | .e p x=>p<=s.Oz.length/\1<=x.Ow/\x.Ow<=s.Ow/\x.bs.length<=8000
def da (s:Rp) (l:List O3):Rp:=l.foldl ep s
def dz:Rp->List O3->Prop
 | _,[]=>True
 | s,a::l=>li s a/\dz (ep s a) l
theorem mc (s:Rp) (l m:List O3):da s (l++m)=da (da s l) m:=eZ
theorem iO (s:Rp) (l m:List O3):dz s (l++m)↔dz s l/\dz (da s l) m:=by
 induction l generalizing s with
 | nil=>simp [dz,da]
 | cons a l ih =>
  have e:=ih (ep s a);simp only [List.cons_append,dz,da,gS] at e ⊢;rw [e,and_assoc]
theorem xZ (s:Rp) (a:O3):∃t c g,ep s a={ s with Ow:=t,OC:=c,Oz:=g }:=by
 cases a with
 | t a b=>exact ⟨a,b,s.Oz,rfl⟩
 | e p x=>exact ⟨s.Ow,s.OC,s.Oz.take p++[x],rfl⟩
theorem gM (s:Rp) (l:List O3):∃t c g,da s l={ s with Ow:=t,OC:=c,Oz:=g }:=by
 induction l generalizing s with
 | nil=>exact ⟨s.Ow,s.OC,s.Oz,rfl⟩
 | cons a l ih =>
  obtain ⟨t,c,g,h⟩:=xZ s a;obtain ⟨t2,c2,g2,h2⟩:=ih (ep s a);refine ⟨t2,c2,g2,?_⟩;show da (ep s a) l=_;rw [h2,h]
theorem qG (s:Rp) (l:List O3):(da s l).Oz.length<=s.Oz.length+l.length:=by
 induction l generalizing s with
 | nil=>simp [da]
 | cons a l ih =>
  have h:=ih (ep s a);have h2:(ep s a).Oz.length<=s.Oz.length+1:=by
   cases a with
   | t a b=>simp [ep]
   | e p x=>simp [ep];omega
  show (da (ep s a) l).Oz.length<=_;simp only [aX];omega
theorem vk (s:Rp) (l:List O3) (j:Nat) (h:j<l.length):da s (l.take (j+1))=ep (da s (l.take j)) l[j]:=by
 rw [<-bO h,mc];rfl
theorem vm (s:Rp) (l:List O3) (hk:dz s l) (j:Nat) (h:j<l.length):li (da s (l.take j)) l[j]:=by
 have e:l=l.take j++(l[j]::l.drop (j+1)):=by
  rw [<-dP h,eI]
 rw [e,iO] at hk;have h2:=hk.2.1;simpa using h2
theorem nV (s:Rp) (l:List O3) (hk:dz s l):s.Ow<=(da s l).Ow/\(s.Ow<=1099511627776->(da s l).Ow<=1099511627776):=by
 induction l generalizing s with
 | nil=>exact ⟨aP _,id⟩
 | cons a l ih =>
  obtain ⟨h1,h2⟩:=hk;obtain ⟨h3,h4⟩:=ih _ h2;show s.Ow<=(da (ep s a) l).Ow/\(_->(da (ep s a) l).Ow<=_);cases a with
  | t a b=>exact ⟨cK h1.1 h3,λ_=>h4 h1.2.1⟩
  | e p x=>exact ⟨h3,h4⟩
theorem me (s:Rp) (l:List O3) (hk:dz s l) (j:Nat):dz s (l.take j):=by
 rw [<-eI j l,iO] at hk;exact hk.1
section
variable {w w':World} {A A' X X':List Nat} {r d l:Nat} {s s':Rp} {k k':Dk}
theorem DH {w0:World} {T:Nat->Prop} (h:Nd w0 A X r d l s k) (hb:Below w0.heap.size w0 w) (a:Nat) (ha:w0.heap.size<=a) (n:O3) (hr:U0 w a T n.bytes false) (Qo:li s n) (h0:0<=s.Ow) (O8:s.n<=5) (hl:s.Oz.length<=1000000) (hM:s.Ow<=1099511627776) :
  Calls Tryz.prog 58 #[.pointer (some ⟨r,0,none⟩),.pointer (some ⟨a,0,none⟩)] w λe w'=>e = .returned (.bool true)/\Py w0 w' A X r d l (ep s n) k:=by
 cases n with
 | t x y=>exact AZ h hb a ha x y hr Qo.1 (cK h0 Qo.1) Qo.2.1 Qo.2.2.1 Qo.2.2.2 O8
 | e p x=>exact Ba h hb a ha p x hr Qo.1 Qo.2.1 Qo.2.2.1 Qo.2.2.2 hl hM
theorem xN (h:Nd w A X r d l s k) (ns:List O3) (SH:s.wl.recs=ns.map O3.bytes) (Qo:dz s ns) (h0:0<=s.Ow) (hM:s.Ow<=1099511627776) (O8:s.n<=5) (YM:s.Oz=[]) (hb:ns.length<=100000) (QR:∀x∈s.wl.recs,x.length<=20000) (QF:n8 s.wl k=false) :
  Calls Tryz.prog 36 #[.pointer (some ⟨r,0,none⟩)] w λe w'=>e = .returned (.bool true)/\Py w w' A X r d l (da s ns) k:=by
 have H:=af h;have hrn:s.wl.recs.length=ns.length:=by rw [SH,aW]
 have HCELL:Hid (∀W A2 X2 s2,Nd W A2 X2 r d l s2 k->s2.wl=s.wl->W.cell? ⟨r,3,none⟩=some (.pointer (some ⟨l,0,none⟩))/\∃A3 D3 L3,WD W A3 D3 L3 l d s.wl k):=af (λW A2 X2 s2 h2 e=>by
  obtain ⟨D,L,R,vl,gv,gn,gm,gh,h2,_⟩:=h2;have hwd:=h2.wd;rw [e] at hwd;exact ⟨by rw [ap h2.cell];rfl,_,_,_,hwd⟩)
 have HRW:Hid (∀j,(da s (ns.take j)).wl=s.wl/\(da s (ns.take j)).n=s.n):=af (λj=>by
  obtain ⟨t,c,g,e⟩:=gM s (ns.take j);rw [e];exact ⟨rfl,rfl⟩)
 have HST:=af (λj (hj:j<ns.length)=>vk s ns j hj);have HOK:=af (λj (hj:j<ns.length)=>vm s ns Qo j hj);have HTM:=af (λj=>nV s (ns.take j) (me s ns Qo j));have HLN:Hid (∀j,(da s (ns.take j)).Oz.length<=1000000):=af (λj=>by
  have:=qG s (ns.take j);rw [YM,aQ,fp] at this;omega)
 have HRC:Hid (∀j (hj:j<ns.length),s.wl.recs.getD j []=ns[j].bytes):=af (λj hj=>by
  rw [SH];simp [List.getD,hj])
 have HAL:Hid (da s ns=da s (ns.take ns.length)):=af (by rw [bW]);have UO:Hid (∀j,(s.wl.recs.getD j []).length<=20000):=af (λj=>by
  by_cases hj:j<s.wl.recs.length
  ·have e:s.wl.recs.getD j []=s.wl.recs[j]:=by simp [List.getD,hj]
   rw [e];exact QR _ (cW _)
  ·rw [aL,JY az];simp)
 have HOFF:=af QF;obtain ⟨hc3,A3,D3,L3,hwd⟩:=HCELL.out w A X s h rfl;have HFI:=af (BT hwd.wl);clear hwd SH Qo QR QF YM h;go_enter Tryz.func36,Tryz.ntmps36
 go_wp2_with fail
 refine HFI.out.mono ?_;rintro e w1 ⟨rfl,rfl⟩;go_wp2_with fail
 go_loopw [3] (λi wr=>∃j:Nat,j<=ns.length/\i = .int .i64 ((j:Int)+1)/\Py w wr A X r d l (da s (ns.take j)) k) (λi _=>ns.length+1 - (intOf i).toNat)
 case atStart=>exact ⟨0,aH _,by simp,H.out.VJ (Mv.refl _ _ _)⟩
 case round =>
  obtain ⟨j,hj,rfl,A1,X1,h1,m1⟩:=hrel;obtain ⟨hk3,A4,D4,L4,hwd⟩:=HCELL.out wr A1 X1 _ h1 (HRW.out j).1;have H1:=af h1;have M1:=af m1;have HWD:=af hwd;clear h1 m1 hwd hc3;have hrb:s.wl.recs.length<=1000000000:=az;have Wv:=af (oe HWD.out.wl hrb);rw [hrn] at Wv;by_cases hlt:j<ns.length
  ·have q1:(j:Int)+1<1+(ns.length:Int):=by omega
   have q6:IntKind.i64.wrap ((j:Int)+1+1)=(j:Int)+1+1:=IntWalk.i64_in _ az;go_wp2_with fail
   refine Wv.out.mono ?_;rintro e w2 ⟨rfl,q,rfl⟩;have H2:=af (H1.out.below (aB wr q));have M2:=af (M1.out.trans (Mv.below (A:=A1) (X:=X1) (aB wr q)));have HWD2:=af (HWD.out.below (aB wr q));have hk3:(wr.drewN q).cell? ⟨r,3,none⟩=some (.pointer (some ⟨l,0,none⟩)):=hk3;generalize wr.drewN q=W2 at *;go_wp2_with fail
   refine (NH HWD2.out HOFF.out j az hrb (by have:=UO.out j;omega)).mono ?_;rintro e W3 ⟨v,rfl,RD,hb3⟩;have Pk:=af hb3;obtain ⟨ao,c,ev,hi,_⟩:=jk RD;rw [HRC.out j hlt] at hi ev;subst ev;have HI3:=af hi;have hlen:(ns[j].bytes).length<=20000:=by rw [<-HRC.out j hlt];exact UO.out j
   clear RD hb3 hi;go_wp2_with fail
   refine (Du ao _ c _ W3 HI3.out az).mono ?_;rintro e W4 ⟨a,rfl,hr4,ha4,ha5,hb4⟩;have HR4:=af hr4;have TA:=af hb4;have Qv:W3.heap.size<=a:=ha4;clear hr4 hb4 ha4 ha5;go_wp2_with fail
   refine (DH (H2.out.below Pk.out) TA.out a Qv ns[j] HR4.out (HOK.out j hlt) (cK h0 (HTM.out j).1) (by rw [(HRW.out j).2];exact O8) (HLN.out j) ((HTM.out j).2 hM)).mono ?_;rintro e W5 ⟨rfl,XC⟩;have Vo:=af (Py.trans (M2.out.trans (Mv.below Pk.out)) XC);rw [<-HST.out j hlt] at Vo;clear XC;go_wp2_with fail
   go_roundw
   case rel=>exact ⟨j+1,by omega,by simp,Vo.out⟩
   case measure=>simp [intOf];omega
  ·obtain rfl:j=ns.length:=by omega
   have q1:¬(ns.length:Int)+1<1+(ns.length:Int):=az;go_wp2_with fail
   refine Wv.out.mono ?_;rintro e w2 ⟨rfl,q,rfl⟩;have QT:=af (Py.trans M1.out ((H1.out.below (aB wr q)).VJ (Mv.below (aB wr q))));generalize wr.drewN q=W2 at *;go_wp2_with fail
   go_ret
   rw [HAL.out];exact ⟨rfl,QT.out⟩
end
section
variable {w:World} {D:List Nat} {d:Nat} {k:Dk}
theorem uz (h:O6 w D d k) (ho:k.off=false):Calls Tryz.prog 50 #[.pointer (some ⟨d,0,none⟩)] w λe w'=>e = .returned (.tuple #[.int .i64 1,.int .i64 0])/\Below w.heap.size w w':=by
 have HR:=af (zo h ho JX BF (.inr dZ));clear h;go_enter Tryz.func50,Tryz.ntmps50
 go_wp2_with fail
 refine HR.out.mono ?_;exact KA
theorem xz (h:O6 w D d k) (ho:k.off=false) (hf:k.file=none):Calls Tryz.prog 51 #[.pointer (some ⟨d,0,none⟩),.string gf] w λe w'=>e = .returned (.tuple #[.slice none 0 0,.int .i64 0])/\Below w.heap.size w w':=by
 have HR:=af (zo h ho gf lm (.inl hf));clear h hf;go_enter Tryz.func51,Tryz.ntmps51
 go_wp2_with fail
 refine HR.out.mono ?_;exact KA
theorem qp (h:O6 w D d k) (ho:k.off=false) {l:List UInt8} {sf:Nat} (hf:k.file=some (l,sf)) (hl:l.length<=1048576):Calls Tryz.prog 51 #[.pointer (some ⟨d,0,none⟩),.string gf] w λe w'=>∃v,e = .returned (.tuple #[v,.int .i64 0])/\OW w' w.heap.size 5 v l/\Below w.heap.size w w':=by
 have HR:=af (Dt h ho hf hl);clear h hf;go_enter Tryz.func51,Tryz.ntmps51
 go_wp2_with fail
 refine HR.out.mono ?_;rintro e w1 ⟨v,rfl,hv,hb⟩;have HB:=af hb;have HV:=af hv;clear hb hv;go_wp2_with fail
 go_ret2
 exact ⟨v,rfl,HV.out,HB.out⟩
theorem vg (ao:Option Addr) (n c:Nat) (rec:List UInt8) (h:Pg w ao n c rec) (hn:n<=20000):Calls Tryz.prog 54 #[.slice ao n c] w λe w'=>e = .returned (.int .i64 ((12+n:Nat):Int))/\Below w.heap.size w w':=by
 have HI:=af h;have Z0:Hid ((F.cM rec).length=12+n):=af (by rw [F.dG,h.len]);clear h;go_enter Tryz.func54,Tryz.ntmps54
 go_wp2_with fail
 refine (F.xS none 0 0 [] ao n c rec w (hZ w) HI.out az hn).mono ?_;rintro e w2 ⟨v2,rfl,OZ,hb2⟩;rw [cC] at OZ;obtain ⟨a2,c2,e2,Tw⟩:=OZ.S9;rw [Z0.out] at e2;subst e2;have HB:=af hb2;clear OZ Tw hb2;exact DW
end
theorem n6 {w:World} {base:Nat} {e:TypeId} {v:Value} {l:List UInt8} (h:OW w base e v l):∃ao c,v = .slice ao l.length c/\Pg w ao l.length c l/\l.length<=c/\c<=9223372036854775807:=by
 obtain ⟨ao,c,rfl,h1,h2,_⟩:=jk h;refine ⟨ao,c,rfl,h1,h2,?_⟩;rcases h.2 with ⟨h2,h3⟩ | ⟨g,cap,cur,hv,hg,hh,hn,hm,hs,ht⟩
 ·simp only [Value.slice.injEq] at h2;omega
 ·cases hv;unfold maxLen at hm;omega
section
variable {w:World} {D:List Nat} {d:Nat} {k:Dk}
end
structure Xb (w w':World) (D:List Nat) (d:Nat) (e:Ending) (recs:List (List UInt8)) (k:Dk):Prop where
 ex:∃l L,e = .returned (.tuple #[.pointer (some ⟨l,0,none⟩),.int .i64 0])/\(∀A:List Nat,(∀b∈A,b<w.heap.size)->WD w' (A++(D++L)) D L l d ⟨k.lives,false,recs⟩ k)/\(∀b∈L,w.heap.size<=b)/\Below w.heap.size w w'
section
variable {w:World} {D:List Nat} {d:Nat} {k:Dk}
theorem xV (h:O6 w D d k) (ho:k.off=false) {bl:List UInt8} {sf:Nat} (hf:k.file=some (bl,sf)) (hl:bl.length<=1048576) (hk:¬(F.di bl).2.2=2) (hu:(F.di bl).2.1=bl.length) (hrs:∀r∈(F.di bl).1,r.length<=20000) (Rh:(F.aY (F.di bl).1).length<=1048576) (RM:(F.di bl).1.length<=1000000) :
  Calls Tryz.prog 34 #[.pointer (some ⟨d,0,none⟩)] w λe w'=>Xb w w' D d e (F.di bl).1 k:=by
 have HR:=af (uz h ho);have HD:=af h;have HO:=af ho;have HF:=af hf;generalize hq:F.di bl=q at hk hu hrs Rh RM ⊢;have HQ:=af hq;obtain ⟨recs,used,how⟩:=q;simp only at hk hu hrs Rh RM;subst hu;have hk2:¬(how:Int)=2:=az;clear h ho hf hq;go_enter Tryz.func34,Tryz.ntmps34
 go_wp2_with fail
 refine HR.out.mono ?_;rintro e w1 ⟨rfl,hb⟩;have HB:=af hb;clear hb;go_wp2_with fail
 refine (qp (HD.out.below HB.out) HO.out HF.out hl).mono ?_;rintro e w2 ⟨v,rfl,hv,hb⟩;have O5:=af (HB.out.trans (hb.mono HB.out.size));obtain ⟨ao,c,rfl,hi,Si,Q5⟩:=n6 hv;have HI:=af hi;clear hb hv hi;go_wp2_with fail
 refine (F.oZ ao bl.length c bl w2 HI.out az Si Q5).mono ?_;exact Oc
end
section
variable {w:World} {D:List Nat} {d:Nat} {k:Dk}
theorem AR (h:O6 w D d k) (ho:k.off=false) (hf:k.file=none) :
  Calls Tryz.prog 34 #[.pointer (some ⟨d,0,none⟩)] w λe w'=>Xb w w' D d e [] k:=by
 have hs:F.di []=([],0,0):=jy;have hrs:∀r∈([]:List (List UInt8)),r.length<=20000:=λr hr=>by cases hr
 have Rh:(F.aY []).length<=1048576:=by simp [F.aY]
 have RM:([]:List (List UInt8)).length<=1000000:=bL;have HR:=af (uz h ho);have HD:=af h;have HO:=af ho;have HF:=af hf;have HQ:=af hs;clear h ho hf hs;have Sw:([]:List UInt8).length=0:=rfl;generalize hrecs:([]:List (List UInt8))=recs at *;go_enter Tryz.func34,Tryz.ntmps34
 go_wp2_with fail
 refine HR.out.mono ?_;rintro e w1 ⟨rfl,hb⟩;have HB:=af hb;clear hb;go_wp2_with fail
 refine (xz (HD.out.below HB.out) HO.out HF.out).mono ?_;rintro e w2 ⟨rfl,hb⟩;have O5:=af (HB.out.trans (hb.mono HB.out.size));clear hb;go_wp2_with fail
 refine (F.oZ none 0 0 [] w2 (hZ w2) az az az).mono ?_;exact Oc
end
structure Zd (w w':World) (D:List Nat) (d:Nat) (e:Ending) (recs:List (List UInt8)) (k:Dk):Prop where
 ex:∃l D' L,e = .returned (.tuple #[.pointer (some ⟨l,0,none⟩),.int .i64 0])/\(∀A:List Nat,(∀b∈A,b<w.heap.size)->WD w' (A++(D'++L)) D' L l d ⟨k.lives,false,recs⟩ k)/\(∀b∈L,w.heap.size<=b)/\OY D D' w w'
theorem Xb.q {w w':World} {D:List Nat} {d:Nat} {e:Ending} {recs:List (List UInt8)} {k:Dk} (h:Xb w w' D d e recs k):Zd w w' D d e recs k:=by
 obtain ⟨l,L,h1,h2,h3,h4⟩:=h;exact ⟨l,D,L,h1,h2,h3,OY.QN h4⟩
def Uw (w:World) (base top:Nat) (v:Value) (ls:List (List UInt8)):Prop :=
 ∃vs:List Value,vs.length=ls.length/\w.ownsRow base 31 1 v ls.length vs/\(∀u∈vs,u.oneCell'=true)/\(∀i,i<ls.length->OW w base 5 (vs.getD i undef) (ls.getD i []))/\(∀b,v.ownBlock=some b->b<top)/\∀i b,(vs.getD i undef).ownBlock=some b->b<top
theorem PC.up {w:World} {base:Nat} {v:Value} {ls:List (List UInt8)} (h:PC w base v ls):Uw w base w.heap.size v ls:=by
 obtain ⟨vs,h1,h2,h3,h4⟩:=h;refine ⟨vs,h1,h2,h3,h4,λb hb=>(World.ownsRow.lt h2 b hb).2,λi b hb=>?_⟩;by_cases hi:i<ls.length
 ·exact ((h4 i hi).lt b hb).2
 ·rw [aL,JY az] at hb;cases hb
theorem Uw.keep {w w':World} {base top:Nat} {v:Value} {ls:List (List UInt8)} {S:List Nat} (h:Uw w base top v ls) (ho:Only S w w') (hS:∀b∈S,b<base\/top<=b):Uw w' base top v ls:=by
 obtain ⟨vs,h1,h2,h3,h4,h5,h6⟩:=h;refine ⟨vs,h1,bR h2 ho (λb hb hm=>?_),h3,λi hi=>bR (h4 i hi) ho (λb hb hm=>?_),h5,h6⟩
 ·have:=hS b hm;have:=h5 b hb;have:=(World.ownsRow.lt h2 b hb).1;omega
 ·have:=hS b hm;have:=h6 i b hb;have:=((h4 i hi).lt b hb).1;omega
section
variable {w:World} {D:List Nat} {d:Nat} {k:Dk}
theorem DD (h:O6 w D d k) (ho:k.off=false) {bl:List UInt8} {sf:Nat} (hf:k.file=some (bl,sf)) (hl:bl.length<=1048576) (XZ:sf<=bl.length) (hk:¬(F.di bl).2.2=2) (hu:(F.di bl).2.1<bl.length) (hrs:∀r∈(F.di bl).1,r.length<=20000) (Rh:(F.aY (F.di bl).1).length<=1048576) (RM:(F.di bl).1.length<=1000000) :
  Calls Tryz.prog 34 #[.pointer (some ⟨d,0,none⟩)] w λe w'=>Zd w w' D d e (F.di bl).1 { k with file:=some (bl.take (F.di bl).2.1,min sf (F.di bl).2.1)}:=by
 have HR:=af (uz h ho);have HD:=af h;have HO:=af ho;have HF:=af hf;generalize hq:F.di bl=q at hk hu hrs Rh RM ⊢;have HQ:=af hq;obtain ⟨recs,used,how⟩:=q;simp only at hk hu hrs Rh RM;have hu9:(used:Int)<(bl.length:Int):=az;have hle:=gc hu;have hk2:¬(how:Int)=2:=az;clear h ho hf hq;go_enter Tryz.func34,Tryz.ntmps34
 go_wp2_with fail
 refine HR.out.mono ?_;rintro e w1 ⟨rfl,hb⟩;have HB:=af hb;clear hb;go_wp2_with fail
 refine (qp (HD.out.below HB.out) HO.out HF.out hl).mono ?_;rintro e w2 ⟨v,rfl,hv,hb⟩;have O5:=af (HB.out.trans (hb.mono HB.out.size));obtain ⟨ao,c,rfl,hi,Si,Q5⟩:=n6 hv;have HI:=af hi;clear hb hv hi;go_wp2_with fail
 refine (F.oZ ao bl.length c bl w2 HI.out az Si Q5).mono ?_;rintro e wa ⟨v3,hr,RD,hb3⟩;rw [HQ.out] at hr RD;obtain rfl:=hr;have Pk:=af (O5.out.trans (hb3.mono O5.out.size));have S5:=af (RD.mono O5.out.size);clear hb3 RD;obtain ⟨Zb,c3,rfl,hc3,hc39⟩:=S5.out.shape;have HU3:=af S5.out.up;go_wp2_with fail
 refine (Il (HD.out.below Pk.out) HO.out HF.out used hle hl XZ).mono ?_;rintro e w3 ⟨D',rfl,hd3,RZ⟩;have HD3:=af hd3;have Rz:=af RZ;have HL3:Hid (Uw w3 w.heap.size wa.heap.size (.slice Zb recs.length c3) recs):=af (HU3.out.keep RZ.only (λb hb=>.inl (HD.out.lt b hb)));have Ux:Hid (w.heap.size<=wa.heap.size/\wa.heap.size<=w3.heap.size):=af ⟨Pk.out.size,RZ.only.size⟩;clear hd3 RZ;go_wp2_with fail
 refine (iq HD3.out).mono ?_;rintro e w4 ⟨rfl,rfl⟩;go_wp2_with fail
 go_loopw [12,58] (λa i wr=>∃(j:Nat) (ve:Value),j<=recs.length/\i = .int .i64 (j:Int)/\a = .int .i64 ((F.aY (recs.take j)).length:Int)/\wr.heap[w3.heap.size]? = some (.cells #[.pointer (some ⟨d,0,none⟩),.int .i64 k.lives,.bool false,.int .i64 1,.slice Zb recs.length c3,ve] 103 (0,0))/\OX wr 0 3 ve (dH (recs.take j))/\(∀b,ve.ownBlock=some b->w3.heap.size<b)/\Uw wr w.heap.size wa.heap.size (.slice Zb recs.length c3) recs/\Below w3.heap.size w3 wr) (λ_ i _=>recs.length - (intOf i).toNat)
 case atStart =>
  refine ⟨0,.slice none 0 0,by omega,rfl,by simp [F.aY],?_,OX.nil _ _ _,(λb hb=>by cases hb),?_,?_⟩
  ·exact aV _ _
  ·exact HL3.out.keep (Only.OL ((aG _ _).alloc (ah _) _) []) (λb hb=>by cases hb)
  ·exact (aG _ _).alloc (ah _) _
 case round =>
  obtain ⟨j,ve,hj,rfl,rfl,hcell,WL,hvb,QR,hb3⟩:=hrel;have HC:=af hcell;have HV:=af WL;have Zg:=af hvb;have HL:=af QR;have WB:=af hb3;clear hcell WL hvb QR hb3;by_cases hlt:j<recs.length
  ·have hrj:(recs.getD j []).length<=20000:=by
    have e:recs.getD j []=recs[j]:=by simp [List.getD,hlt]
    rw [e];exact hrs _ (cW _)
   have XE:(F.aY (recs.take j)).length+(12+(recs.getD j []).length)=(F.aY (recs.take (j+1))).length:=by
    have e:recs.getD j []=recs[j]:=by simp [List.getD,hlt]
    rw [e,<-bO hlt,lu]
   have YW:(F.aY (recs.take (j+1))).length<=1048576:=by
    have e:F.aY recs=F.aY (recs.take (j+1))++F.aY (recs.drop (j+1)):=by
     unfold F.aY;rw [<-List.flatMap_append,eI]
    rw [e,aE] at Rh;omega
   obtain ⟨us,hu,TF,PL,Qz,hut,hux⟩:=HL.out;obtain ⟨ao,c,e1,hi,_,_⟩:=n6 (Qz j hlt);have hgu:=TF;rcases TF.2 with ⟨_,h0⟩ | ⟨g,cap,cur,e0,_,hg,hgn,hgm,hgs,hgt⟩
   ·omega
   cases e0;have hcell:wr.cell? ⟨g,j,none⟩=some (.slice ao (recs.getD j []).length c):=by
    have:=World.ownsRow.cellAt hgu j az;rw [this,<-e1];have hun:j<us.length:=az;simp [List.getD,hun]
   have HI:=af hi;clear hu TF PL Qz hut hux hgu hg hgs hgt hgn hgm e1 hi;have HRJ:=af hrj;have HFJ:=af XE;clear hrj XE;generalize QR:recs.getD j []=rl at *;have UO:=af QR;clear QR;go_wp2_with fail
   refine (vg ao rl.length c rl HI.out HRJ.out).mono ?_;rintro e wr2 ⟨rfl,hb⟩;have HBS:=af hb;clear hb hcell;have VO:wrap64 ((F.aY (recs.take j)).length+(12+(rl.length:Int)))=((F.aY (recs.take (j+1))).length:Int):=by
    have:=HFJ.out;rw [<-this];unfold wrap64;omega
   have hfj3:Hid ((F.aY (recs.take (j+1))).length<=1048576):=af YW;have HSUM:=af (show wrap64 ((F.aY (recs.take j)).length+(12+(rl.length:Int)))=((F.aY (recs.take (j+1))).length:Int) from VO);have hc2:wr2.heap[w3.heap.size]? = some (.cells #[.pointer (some ⟨d,0,none⟩),.int .i64 k.lives,.bool false,.int .i64 1,.slice (some ⟨g,0,none⟩) recs.length c3,ve] 103 (0,0)):=(Only.OL HBS.out []).keeps HC.out bL;have U2:=af hc2;clear hc2 YW;generalize hz:(F.aY (recs.take (j+1))).length=z at *;have HZ:=af hz;clear hz;have UG:(dH (recs.take j)).length=j:=by rw [gK,aQ];omega
   have HELN:=af UG;have hv2:OX wr2 0 3 ve (dH (recs.take j)):=ji HV.out HBS.out;obtain ⟨ae,ce,e5,_⟩:=hv2.Xr;rw [UG] at e5;subst e5;have HV2:=af hv2;have HLEN:Hid ((dH (recs.take j)).length+1<=17592186044416):=af (by rw [UG];omega);clear UG hv2;have UZ:wr2.cell? ⟨w3.heap.size,5,none⟩=some (.slice ae j ce):=(ap U2.out 5).trans rfl;go_wp2_with (at_builtin;refine ii rfl (.tmp 70) (.tmp 72) 74 rfl 3 Tryz.underlying74 F.info3 (.slice ae j ce) (dH (recs.take j)) rfl (OX.alloc HV2.out _) (some ⟨wr2.heap.size,0,none⟩) 1 1 [(z:Int)] rfl (lP (aV wr2 _)) HLEN.out ?_)
   intro ve5 w5 PS Rl SK;have h5:=Rl.keeps (bD U2.out (.cells #[.int .i64 (z:Int)] 3)) (lM (OX.alloc HV2.out (.cells #[.int .i64 (z:Int)] 3)) (bD U2.out (.cells #[.int .i64 (z:Int)] 3)) bL);obtain ⟨a5,c5,e5,_⟩:=PS.Xr;rw [aE,HELN.out] at e5;simp only [aX,fp,cB] at e5;subst e5;have Re:w5.cell? ⟨w3.heap.size,5,none⟩=some (.slice ae j ce):=(ap h5 5).trans rfl;have hz:=aU h5 5;have HL5:=af h5;have RJ:=af PS;have Zl:=af Rl;have Wx:=af SK;clear h5 PS Rl SK;go_wp2_with fail
   case roundEnd =>
    refine ⟨?_,?_⟩;rotate_left
    ·simp [intOf];omega
    have hlw:w3.heap.size<wr.heap.size:=bg HC.out;have YV:∀b,(Value.slice a5 (j+1) c5).ownBlock=some b->w3.heap.size<b:=λb hb=>by
     rcases Wx.out b hb with h1 | h1
     ·exact Zg.out b h1
     ·have:=HBS.out.size;have h2:(wr2.alloc (.cells #[.int .i64 (z:Int)] 3)).heap.size=wr2.heap.size+1:=bL;omega
    have P8:Only (w3.heap.size::(Value.slice ae j ce).ownBlock.toList) wr (w5.setCell ⟨w3.heap.size,5,none⟩ (.slice a5 (j+1) c5)):=(((Only.OL HBS.out _).trans (Only.OL ((aG _ _).alloc (ah _) _) _)).trans (Zl.out.mono (λb hb=>aM _ hb))).setCell bL _;have Qv:∀b∈(w3.heap.size::(Value.slice ae j ce).ownBlock.toList),w3.heap.size<=b:=λb hb=>by
     rcases cA.1 hb with rfl | hb
     ·exact ah _
     ·exact gc (Zg.out b Ek)
    have hew:dH (recs.take (j+1))=dH (recs.take j)++[(z:Int)]:=by
     have e:recs.take (j+1)=recs.take j++[recs[j]]:=(bO hlt).symm;have hz2:=HZ.out;rw [e] at hz2;rw [e,lw,hz2]
    refine ⟨j+1,.slice a5 (j+1) c5,by omega,by simp,by rw [HZ.out],be HL5.out 5 _,?_,YV,?_,?_⟩
    ·rw [hew];exact bR RJ.out (S:=[w3.heap.size]) ((Only.OL (aG _ _) _).setCell bL _) (λb hb=>by have:=YV b hb;simp;omega)
    ·exact HL.out.keep P8 (λb hb=>.inr (aF Ux.out.2 (Qv b hb)))
    ·exact WB.out.trans (P8.below (gc hlw) Qv)
  ·have Tv:j=recs.length:=by omega
   subst Tv;go_wp2_with fail
   go_ret2
   rw [bW] at HV;have hlw:w3.heap.size<wr.heap.size:=bg HC.out;obtain ⟨us,hu,TF,PL,Qz,hut,hux⟩:=HL.out;have YC:=λb hb=>World.ownsRow.lt TF b hb;have WL:=λb hb=>HV.out.lt b hb;have Qv:∀b∈(w3.heap.size::((Value.slice Zb recs.length c3).ownBlock.toList++ve.ownBlock.toList)),w.heap.size<=b/\b<wr.heap.size/\(b<wa.heap.size\/w3.heap.size<=b)/\∃cur t,t≠5/\wr.heap[b]? = some (.cells cur t (0,0)):=λb hb=>by
    rcases cA.1 hb with rfl | hb
    ·exact ⟨aF Ux.out.1 Ux.out.2,hlw,.inr (ah _),_,103,by simp,HC.out⟩
    ·rcases aA.1 hb with hb | hb
     ·have hb2:(Value.slice Zb recs.length c3).ownBlock=some b:=by simpa using hb
      exact ⟨(YC b hb2).1,(YC b hb2).2,.inl (hut b hb2),_,31,by simp,d9 (fw TF (aH _)) hb2⟩
     ·have hb2:ve.ownBlock=some b:=by simpa using hb
      exact ⟨aF (aF Ux.out.1 Ux.out.2) (gc (Zg.out b hb2)),(WL b hb2).2,.inr (gc (Zg.out b hb2)),_,3,by simp,d9 HV.out hb2⟩
   have hDlt:∀b∈D',b<w3.heap.size/\(b<w.heap.size\/wa.heap.size<=b):=λb hb=>⟨HD3.out.lt b hb,(Rz.out.gr b hb).imp (λh=>HD.out.lt b h) id⟩
   refine ⟨⟨w3.heap.size,D',_,rfl,λA hA=>⟨⟨⟨_,_,HC.out,⟨⟨us,hu,fw TF (aH _),λi hi=>?_⟩,HV.out,λb hb=>?_,λb hb=>?_⟩⟩,bd,λb hb=>(Qv b hb).2.1⟩,HD3.out.below WB.out,λb hb hb2=>?_,λb hb=>aR _ (aI _ hb),λb hb=>aR _ (aR _ hb),λb hb=>?_⟩,λb hb=>(Qv b hb).1,((OY.QN Pk.out).trans Rz.out).trans (OY.QN WB.out)⟩⟩
   ·obtain ⟨ao4,c4,e4,h1,h2,h3⟩:=jk (Qz i hi);refine ⟨ao4,c4,e4,h1,h2,λp hp=>⟨λhm=>?_,(h3 p hp).2⟩⟩;have hb4:(us.getD i undef).ownBlock=some p.block:=by rw [e4,hp];rfl
    rcases aA.1 hm with hm | hm
    ·have:=hA _ hm;have:=(h3 p hp).1;omega
    rcases aA.1 hm with hm | hm
    ·have h7:=hDlt _ hm;have:=(h3 p hp).1;have:=hux i p.block hb4;omega
    ·obtain ⟨_,_,_,cur,t,ht,hc⟩:=Qv _ hm;have h6:=d9 (fw (Qz i hi) (aH _)) hb4;rw [hc] at h6;simp at h6;exact ht h6
   ·exact aM _ (aI _ uc)
   ·exact aM _ (aR _ uc)
   ·have h7:=hDlt _ hb;have h8:=Qv _ hb2;have:=Ux.out;omega
   ·rcases aA.1 hb with hb | hb
    ·exact aK (hA _ hb) (aF (aF Ux.out.1 Ux.out.2) WB.out.size)
    rcases aA.1 hb with hb | hb
    ·exact aK (hDlt _ hb).1 WB.out.size
    ·exact (Qv _ hb).2.1
end
structure Torn (k:Dk) (ls:List (List UInt8)):Prop where
 ex:(k.file=none/\ls=[])\/∃sf r j,k.file=some (F.aY ls++(F.cM r).take j,sf)/\r.length<=20000/\j<12+r.length/\sf<=(F.aY ls++(F.cM r).take j).length
def fJ (k:Dk) (ls:List (List UInt8)):Dk:=match k.file with | none=>k | some (_,sf)=>{ k with file:=some (F.aY ls,min sf (F.aY ls).length)}
theorem AU {w:World} {D:List Nat} {d:Nat} {k:Dk} {ls:List (List UInt8)} (h:O6 w D d k) (ho:k.off=false) (ht:Torn k ls) (hr:∀r∈ls,r.length<=20000) (hl:k.total<=1048576) :
  Calls Tryz.prog 34 #[.pointer (some ⟨d,0,none⟩)] w λe w'=>Zd w w' D d e ls (fJ k ls):=by
 rcases ht.ex with ⟨hf,rfl⟩ | ⟨sf,r,j,hf,QR,hj,XZ⟩
 ·have e:fJ k []=k:=by unfold fJ;rw [hf]
  rw [e];exact (AR h ho hf).mono λe w' h=>h.q
 ·have e:fJ k ls={ k with file:=some (F.aY ls,min sf (F.aY ls).length)}:=by unfold fJ;rw [hf]
  rw [e];have hs:=F.tP ls r j hr QR hj;have hl2:(F.aY ls++(F.cM r).take j).length<=1048576:=by
   unfold Dk.total at hl;rw [hf] at hl;exact hl
  have Rh:(F.aY ls).length<=1048576:=by rw [aE] at hl2;omega
  have RM:ls.length<=1000000:=by
   have:12*ls.length<=(F.aY ls).length:=by
    exact jF ls
   omega
  by_cases h0:j=0
  ·subst h0;rw [ay rfl] at hs;rw [List.take_zero,dq] at hs hf XZ hl2;have h1:=xV h ho hf hl2 (by rw [hs];simp) (by rw [hs]) (by rw [hs];exact hr) (by rw [hs];exact Rh) (by rw [hs];exact RM);rw [hs] at h1;have e2:({ k with file:=some (F.aY ls,min sf (F.aY ls).length)}:Dk)=k:=by
    rw [bT XZ,<-hf]
   rw [e2];exact h1.mono λe w' h=>h.q
  ·rw [am h0] at hs;have PI:((F.cM r).take j).length=j:=by rw [aQ,F.dG];omega
   have h1:=DD h ho hf hl2 XZ (by rw [hs];simp) (by rw [hs,aE,PI];simp;omega) (by rw [hs];exact hr) (by rw [hs];exact Rh) (by rw [hs];exact RM);rw [hs] at h1;simp only [List.take_left] at h1;exact h1
end Go.Proofs.YtnhefallmioefaaGreat
