/-
  What the proof of the law leans on: contracts of the program's functions, one behind another. No condition.
-/
import Derived.Test.YtnhefallmioefaaGreatV0
import Derived.Test.YtnhefallmioefaaGreatV21
import Derived.Test.YtnhefallmioefaaGreatV4
import Derived.Test.YtnhefallmioefaaGreatV20
set_option linter.unusedVariables false
set_option linter.unusedSimpArgs false
namespace Go.Proofs.YtnhefallmioefaaGreat
set_option maxRecDepth 20000
def zx:List (List UInt8)->Nat->Nat
 | [],_=>0
 | r::l,len=>if 12+r.length<=len then zx l (len - (12+r.length))+1 else 0
theorem vj (recs:List (List UInt8)):∀len,len<=(F.aL recs).length->∃r q,(F.aL recs).take len=F.aL (recs.take (zx recs len))++(F.bV r).take q/\q<12+r.length/\(r=[]\/r∈recs):=by
 induction recs with
 | nil =>
  intro len h;refine ⟨[],0,?_,by simp,.inl rfl⟩;simp [F.aL,zx]
 | cons a l ih =>
  intro len h;rw [F.eh,ay,F.cX] at h;unfold zx;by_cases hl:12+a.length<=len
  ·rw [aA hl];obtain ⟨r,q,h1,h2,h3⟩:=ih (len - (12+a.length)) (by omega);refine ⟨r,q,?_,h2,h3.imp id (aU _)⟩;rw [F.eh,List.take_succ_cons,F.eh,bD,<-h1,List.take_append,F.cX,aZ (by rw [F.cX];exact hl)]
  ·rw [aw hl];refine ⟨a,len,?_,by omega,.inr cz⟩;rw [F.eh,cG (by rw [F.cX];omega)];simp [F.aL]
def kT (b:List UInt8):Note:=if b.length=24 then .t (ou (b.drop 8)) (ou (b.drop 16)) else .e (ou (b.drop 8)).toNat ⟨ou (b.drop 16),b.drop 32⟩
theorem AZ (a c:Int) (h1 : -9223372036854775808<=a) (h2:a<=9223372036854775807) (h3 : -9223372036854775808<=c) (h4:c<=9223372036854775807):kT (dw a c) = .t a c:=by
 unfold kT;rw [aA (iz a c),me];have e1:(fy 1++(fy a++(fy c++[]))).drop 8=fy a++(fy c++[]):=jK (eZ 1);have e2:(fy 1++(fy a++(fy c++[]))).drop 16=fy c++[]:=by
  rw [show 16=8+8 from rfl,<-List.drop_drop,e1];exact jK (eZ a)
 rw [e1,e2,jo a _ h1 h2,jo c _ h3 h4]
theorem Ba (p:Nat) (x:Ent) (h1:p<=1000000000) (h2 : -9223372036854775808<=x.term) (h3:x.term<=9223372036854775807):kT (db p x) = .e p x:=by
 unfold kT;rw [aw (by rw [gL];omega)];have hp:db p x=fy 2++(fy (p:Int)++(fy x.term++(fy (x.bs.length:Int)++x.bs))):=by
  unfold db jg;simp [bD]
 rw [hp];have e1:(fy 2++(fy (p:Int)++(fy x.term++(fy (x.bs.length:Int)++x.bs)))).drop 8=fy (p:Int)++(fy x.term++(fy (x.bs.length:Int)++x.bs)):=jK (eZ 2);have e2:(fy 2++(fy (p:Int)++(fy x.term++(fy (x.bs.length:Int)++x.bs)))).drop 16=fy x.term++(fy (x.bs.length:Int)++x.bs):=by
  rw [show 16=8+8 from rfl,<-List.drop_drop,e1];exact jK (eZ _)
 have e3:(fy 2++(fy (p:Int)++(fy x.term++(fy (x.bs.length:Int)++x.bs)))).drop 32=x.bs:=by
  rw [show 32=16+(8+8) from rfl,<-List.drop_drop,e2,<-List.drop_drop,jK (eZ x.term)];exact jK (eZ _)
 rw [e1,e2,e3,jo (p:Int) _ (by omega) (by omega),jo x.term _ h2 h3,ed]
theorem js (a b:Rp) (h1:a.n=b.n) (h2:a.term=b.term) (h3:a.choice=b.choice) (h4:a.log=b.log) (l:List Note):(cA a l).term=(cA b l).term/\(cA a l).choice=(cA b l).choice/\(cA a l).log=(cA b l).log/\(cQ a l↔cQ b l):=by
 induction l generalizing a b with
 | nil=>exact ⟨h2,h3,h4,Iff.rfl⟩
 | cons x l ih =>
  have hk:jv a x↔jv b x:=by
   cases x with
   | t u v=>simp only [jv];rw [h2,h1]
   | e p y=>simp only [jv];rw [h4,h2]
  have hn:(dy a x).n=(dy b x).n/\(dy a x).term=(dy b x).term/\(dy a x).choice=(dy b x).choice/\(dy a x).log=(dy b x).log:=by
   cases x with
   | t u v=>exact ⟨h1,rfl,rfl,h4⟩
   | e p y=>exact ⟨h1,h2,h3,by simp only [dy];rw [h4]⟩
  obtain ⟨r1,r2,r3,r4⟩:=ih (dy a x) (dy b x) hn.1 hn.2.1 hn.2.2.1 hn.2.2.2;refine ⟨r1,r2,r3,?_⟩;simp only [cQ];rw [hk,r4]
theorem kN (s:Rp) (l:List Note) (h:cQ s l) (hl:s.log.length+l.length<=1000000000) (h0:0<=s.term) (hM:s.term<=1099511627776) (hn:s.n<=5):(l.map Note.bytes).map kT=l:=by
 induction l generalizing s with
 | nil=>rfl
 | cons a l ih =>
  obtain ⟨h1,h2⟩:=h;simp only [aY] at hl;have hlog:(dy s a).log.length<=s.log.length+1:=by
   cases a with
   | t u v=>simp [dy]
   | e p y=>simp [dy];omega
  have hterm:0<=(dy s a).term:=by
   cases a with
   | t u v=>exact fO h0 h1.1
   | e p y=>exact h0
  have hnn:(dy s a).n<=5:=by
   cases a with
   | t u v=>exact hn
   | e p y=>exact hn
  have hMM:(dy s a).term<=1099511627776:=by
   cases a with
   | t u v=>exact h1.2.1
   | e p y=>exact hM
  have e:=ih (dy s a) h2 (by omega) hterm hMM hnn;simp only [dE,e];congr 1;cases a with
  | t u v =>
   obtain ⟨k1,k2,k3,k4⟩:=h1;exact AZ u v (by omega) (by omega) (by omega) (by omega)
  | e p y =>
   obtain ⟨k1,k2,k3,k4⟩:=h1;exact Ba p y (by omega) (by omega) (by omega)
structure UpI (s:Rp) (k:Dk):Prop where
 wf:Wf s k
 nok:NOk s
 sf:qx k
 off:k.off=false
structure DnI (s:Rp) (k:Dk):Prop where
 fil:eP k=(F.aL s.wl.recs).take (eP k).length
 len:(eP k).length<=(F.aL s.wl.recs).length
 sf:qx k
 room:k.room<=1048576
 tot:(k.total:Int)<=k.room
 nok:NOk s
 n1:1<=s.n
 n5:s.n<=5
 own:s.own<s.n
 off:k.off=true
theorem n4 (k:Dk) (keep:Int):∃m,m<=(eP k).length/\eP (cS k keep)=(eP k).take m/\(qx k->qx (cS k keep)):=by
 unfold cS n6 eP qx;cases hk:k.file with
 | none=>exact ⟨0,by simp,by simp,λ_ l q hf=>by cases hf⟩
 | some p =>
  obtain ⟨l,q⟩:=p;refine ⟨min (stays l q keep) l.length,by simp;omega,?_,λh l2 q2 hf=>?_⟩
  ·simp only;rw [<-cB,aZ (ah _)]
  ·simp only [bW,dC] at hf;obtain ⟨rfl,rfl⟩:=hf;have:=qN (l:=l) (k:=q) keep (h l q rfl);rw [aI];omega
theorem UpI.crash {s:Rp} {k:Dk} (h:UpI s k) (keep:Int):DnI s (cS k keep):=by
 obtain ⟨m,h1,h2,h3⟩:=n4 k keep;have hf:=h.wf.fil;have hl:(eP (cS k keep)).length=m:=by rw [h2,aI];omega
 refine ⟨by rw [hl,h2,hf],by rw [hl,<-hf];exact h1,h3 h.sf,h.wf.room,?_,h.nok,h.wf.n1,h.wf.n5,h.wf.own,rfl⟩;have:=h.wf.tot;rw [eG] at this ⊢;rw [hl];show (m:Int)<=k.room;omega
theorem DnI.crash {s:Rp} {k:Dk} (h:DnI s k) (keep:Int):DnI s (cS k keep):=by
 obtain ⟨m,h1,h2,h3⟩:=n4 k keep;have hl:(eP (cS k keep)).length=m:=by rw [h2,aI];omega
 refine ⟨?_,by rw [hl];exact aD h1 h.len,h3 h.sf,h.room,?_,h.nok,h.n1,h.n5,h.own,rfl⟩
 ·rw [hl,h2];rw [h.fil,cB,bi h1]
 ·have:=h.tot;rw [eG] at this ⊢;rw [hl];show (m:Int)<=k.room;omega
def CX (k:Dk):Dk:={ k with off:=false,lives:=k.lives+1 }
def dS (s:Rp) (k:Dk):List (List UInt8):=s.wl.recs.take (zx s.wl.recs (eP k).length)
def eB (i n:Nat) (s:Rp) (k:Dk):Rp:=cA (dg i n (k.lives+1) (dS s k)) ((dS s k).map kT)
def ep (s:Rp) (k:Dk):Dk:=eJ (CX k) (dS s k)
theorem ri (s:Rp) (l:List Note) (h:cQ s l):∀x∈l.map Note.bytes,x.length<=20000:=by
 induction l generalizing s with
 | nil=>intro x hx;cases hx
 | cons a l ih =>
  intro x hx;obtain ⟨h1,h2⟩:=h;rw [dE] at hx;rcases bg.1 hx with rfl | hx
  ·cases a with
   | t u v=>show (dw u v).length<=_;rw [iz];omega
   | e p y=>show (db p y).length<=_;rw [gL];have:=h1.2.2.2;omega
  ·exact ih _ h2 x hx
theorem qk {s:Rp} {k:Dk} (h:DnI s k):Torn (CX k) (dS s k)/\(∀x∈dS s k,x.length<=20000)/\(CX k).total<=1048576/\∃ns,dS s k=ns.map Note.bytes/\(dS s k).map kT=ns/\cQ (ix s.n) ns/\ns.length<=100000:=by
 obtain ⟨ns,g1,g2,_⟩:=h.nok.ex;have ht:(eP k).length<=1048576:=by
  have h1:=h.tot;have h2:=h.room;rw [eG] at h1;omega
 obtain ⟨r,q,t1,t2,t3⟩:=vj s.wl.recs (eP k).length h.len;have hb:dS s k=(ns.take (zx s.wl.recs (eP k).length)).map Note.bytes:=by
  unfold dS;rw [g1,gW]
 have hk:=j0 _ _ g2 (zx s.wl.recs (eP k).length);have hlen:∀x∈dS s k,x.length<=20000:=by rw [hb];exact ri _ _ hk
 have hfb:eP k=F.aL (dS s k)++(F.bV r).take q:=by rw [h.fil];exact t1
 have hns:(ns.take (zx s.wl.recs (eP k).length)).length<=100000:=by
  have h1:=ii (dS s k);have h2:(F.aL (dS s k)).length<=(eP k).length:=by rw [hfb,ay];omega
  have h3:(dS s k).length=(ns.take (zx s.wl.recs (eP k).length)).length:=by rw [hb,aP]
  omega
 refine ⟨⟨?_⟩,hlen,by rw [eG];exact ht,_,hb,?_,hk,hns⟩
 ·cases hf:k.file with
  | none =>
   refine .inl ⟨hf,?_⟩;have:eP k=[]:=by unfold eP;rw [hf]
   rw [this] at hfb;have h0:(F.aL (dS s k)).length=0:=by
    have:=DL List.length hfb;rw [ay] at this;simp at this;omega
   have h1:=ii (dS s k);exact br.1 (by omega)
  | some p =>
   obtain ⟨l,sf⟩:=p;have hl:eP k=l:=by unfold eP;rw [hf]
   rw [hl] at hfb;have hr:r.length<=20000:=by
    rcases t3 with rfl | hm
    ·simp
    ·rw [g1] at hm;exact ri _ _ g2 r hm
   exact .inr ⟨sf,r,q,by show k.file=_;rw [hf,<-hfb],hr,t2,by rw [<-hfb];exact h.sf l sf hf⟩
 ·rw [hb];exact kN (ix s.n) _ hk (by show 0+_<=_;omega) (aX _) (by show (0:Int)<=_;decide) h.n5
theorem oy (s:Rp) (l:List Note) (h:cQ s l) (h1 : -1<=s.choice) (h2:s.choice<s.n) (h3:∀x∈s.log,x.bs.length<=8000) : -1<=(cA s l).choice/\(cA s l).choice<s.n/\∀x∈(cA s l).log,x.bs.length<=8000:=by
 induction l generalizing s with
 | nil=>exact ⟨h1,h2,h3⟩
 | cons a l ih =>
  obtain ⟨k1,k2⟩:=h;cases a with
  | t u v=>exact ih (dy s (.t u v)) k2 k1.2.2.1 k1.2.2.2 h3
  | e p y=>exact ih (dy s (.e p y)) k2 h1 h2 (λx hx=>by
   rcases ap.1 hx with hx | hx
   ·exact h3 x (eK hx)
   ·rw [aj.1 hx];exact k1.2.2.2)
theorem BQ {s:Rp} {k:Dk} (h:DnI s k):UpI (eB s.own s.n s k) (ep s k)/\(eB s.own s.n s k).own=s.own/\(eB s.own s.n s k).n=s.n/\(eB s.own s.n s k).clock=0:=by
 obtain ⟨ht,hr,htot,ns,hb,hd,hk,hns⟩:=qk h;have e0:eB s.own s.n s k=cA (dg s.own s.n (k.lives+1) (dS s k)) ns:=by unfold eB;rw [hd]
 have hlike:=js (dg s.own s.n (k.lives+1) (dS s k)) (ix s.n) rfl rfl rfl rfl ns;have hk2:=hlike.2.2.2.2 hk;have hbnd:=oy (dg s.own s.n (k.lives+1) (dS s k)) ns hk2 (by show (-1:Int) <= -1;omega) (by show (-1:Int)<(s.n:Int);omega) (λx hx=>by cases hx);have htm:=kM (dg s.own s.n (k.lives+1) (dS s k)) ns hk2;have hlen:=nc (dg s.own s.n (k.lives+1) (dS s k)) ns;obtain ⟨t,c,g,e⟩:=fC (dg s.own s.n (k.lives+1) (dS s k)) ns;rw [e] at hbnd htm hlen hlike;have hrl:(dS s k).length=ns.length:=by rw [hb,aP]
 have hfil:eP (ep s k)=F.aL (dS s k):=by
  unfold ep eJ;rcases ht.ex with ⟨hf,hn⟩ | ⟨sf,r,q,hf,_⟩
  ·rw [hf];simp only;rw [hn];unfold eP;rw [hf];rfl
  ·rw [hf];rfl
 have hroom:(ep s k).room=k.room:=by unfold ep eJ;split<;>rfl
 have hoff:(ep s k).off=false:=by unfold ep eJ;split<;>rfl
 have hfl:(F.aL (dS s k)).length<=(eP k).length:=by
  rcases ht.ex with ⟨hf,hn⟩ | ⟨sf,r,q,hf,_⟩
  ·rw [hn];simp [F.aL]
  ·have:eP k=F.aL (dS s k)++(F.bV r).take q:=by
    have hf2:k.file=some (F.aL (dS s k)++(F.bV r).take q,sf):=hf;unfold eP;rw [hf2]
   rw [this,ay];omega
 have hsf:qx (ep s k):=by
  intro l q hf;unfold ep eJ at hf;split at hf
  ·rename_i hn;rw [hn] at hf;cases hf
  ·simp only [bW,dC] at hf;obtain ⟨rfl,rfl⟩:=hf;exact Nat.min_le_right _ _
 rw [e0,e];refine ⟨⟨⟨h.n1,h.n5,h.own,by simp [dg],by simp [dg],by simp [dg],by simp [dg],by rw [hroom];exact h.room,?_,hfil,?_,aH _,rfl,(λhl=>by cases hl),htm.1,htm.2 (by show (0:Int)<=_;decide),hbnd.1,hbnd.2.1,hbnd.2.2,ah _,λx hx=>?_⟩,⟨⟨ns,hb,hk,λ_=>⟨hlike.1.symm,hlike.2.1.symm,hlike.2.2.1.symm⟩⟩,(λhl=>by cases hl)⟩,hsf,hoff⟩,rfl,rfl,rfl⟩
 ·have:=h.tot;rw [eG] at this ⊢;rw [hroom,hfil];omega
 ·show g.length<=(dS s k).length;rw [hrl];have:g.length<=0+ns.length:=hlen;omega
 ·have:x∈List.replicate s.n ((0:Int),(0:Int),(0:Int)):=hx;rw [List.eq_of_mem_replicate this];exact ⟨aX _,by show (0:Int)<=_;simp⟩
open Go.RowKit Go.ChangeMaps Go.WideMaps Go.Maps
section
variable {w w' w2:World} {A A' X Y Y' Z Z':List Nat} {g n:Nat} {S:Mn} {es es':Cuts} {os rs ds ls:Nat->Nat} {Xs:Nat->List Nat} {vl:Value} {nb mb mb':Nat} {qv lv qv' pn:Value} {q':List Msg} {r d l:Nat} {s:Rp} {k:Dk}
set_option maxHeartbeats 4000000 in
theorem wO (h:Gy w A Z g n S es) (i:Nat) (hi:i<n) (hu:(S.at i).up=true) (P:Int) (hP1 : -9223372036854775808<=P) (hP2:P<=9223372036854775807) (hf:qx (S.at i).k/\(S.at i).k.total<=1048576) :
  Calls Tryz.prog 23 #[.pointer (some ⟨g,0,none⟩),.int .i64 (i:Int),.int .i64 P] w λe w'=>e = .returned (.bool true)/\GyP w w' A Z g n (S.set i ⟨(S.at i).s,cS (S.at i).k P,false⟩) es:=by
 obtain ⟨Y,os,rs,ds,ls,Xs,vl,nb,mb,qv,lv,h,hz⟩:=h;obtain ⟨gl,cr,rfl,hcr,hrow⟩:=h.lrow (by omega);have H1:=ab (eM h.cell (i:Int));rw [aJ (show (0:Int)<=(i:Int) by omega),aJ (show (i:Int)<(n:Int) by omega)] at H1;obtain ⟨D,hdk,hDX⟩:=(h.node i hi).dk;have HCR:=ab (wX hdk P hP1 hP2 (λl k hl=>⟨hf.1 l k hl,by have h9:=hf.2;unfold Dk.total at h9;rw [hl] at h9;exact h9⟩));have HF:Hid (∀D' w2,IsDk w2 D' (ds i) (cS (S.at i).k P)->Moves D D' w w2->GyP w (w2.setCell ⟨os i,2,none⟩ (.bool false)) A Z g n (S.set i ⟨(S.at i).s,cS (S.at i).k P,false⟩) es):=ab λD' w2 h2 m2=>h.crashed hz hi hDX h2 m2;have c0:w.cell? ⟨g,0,none⟩=some (.slice (some ⟨gl,0,none⟩) n cr):=by rw [af h.cell];rfl
 have c1:w.cell? ⟨gl,i,none⟩=some (.pointer (some ⟨os i,0,none⟩)):=hrow i hi;have c2:w.cell? ⟨os i,0,none⟩=some (.pointer (some ⟨ds i,0,none⟩)):=by rw [af (h.one i hi)];rfl
 have c3:w.cell? ⟨os i,2,none⟩=some (.bool true):=by rw [af (h.one i hi),hu];rfl
 have hno:∀b∈Y,b∉D:=λb hb hd=>h.yx i hi b hb (hDX b hd);have HK:Hid (∀w2,Only D w w2->w2.cell? ⟨g,0,none⟩=some (.slice (some ⟨gl,0,none⟩) n cr)/\w2.cell? ⟨gl,i,none⟩=some (.pointer (some ⟨os i,0,none⟩))/\w2.cell? ⟨os i,2,none⟩=some (.bool true)/\w2.frozen? ⟨os i,2,none⟩=false):=ab λw2 ho =>
  ⟨ho.cell c0 (hno _ h.gY),ho.cell c1 (hno _ (h.lY gl rfl)),ho.cell c3 (hno _ (h.oY i hi)),aM (ho.keeps (h.one i hi) (hno _ (h.oY i hi))) 2⟩
 have hin:(i:Int)<(n:Int):=by omega
 clear h hz hrow hu hf hdk hDX hno hP1 hP2;go_enter Tryz.func23,Tryz.ntmps23
 go_wp2_with fail
 refine H1.out.mono ?_;rintro e w1 ⟨rfl,rfl⟩;go_wp2_with fail
 refine HCR.out.mono ?_;rintro e w2 ⟨D',rfl,hd2,hm2⟩;obtain ⟨k0,k1,k3,k4⟩:=HK.out _ hm2.only;have HG:=ab (HF.out D' w2 hd2 hm2);clear hd2 hm2;go_wp2_with fail
 go_ret
 exact ⟨rfl,HG.out⟩
set_option maxHeartbeats 2000000 in
theorem pr (h:Gy w A Z g n S es) (x P:Int) (hx:(decide (0<=x)&&decide (x<(n:Int)))=false\/∃i:Nat,i<n/\x=(i:Int)/\(S.at i).up=false) :
  Calls Tryz.prog 23 #[.pointer (some ⟨g,0,none⟩),.int .i64 x,.int .i64 P] w λe w'=>e = .returned (.bool false)/\w=w':=by
 obtain ⟨Y,os,rs,ds,ls,Xs,vl,nb,mb,qv,lv,h,hz⟩:=h;obtain ⟨ar,cr,e1,_,_⟩:=du h.lr;subst e1;have H1:=ab (eM h.cell x);rcases hx with hx | ⟨i,hi,rfl,hu⟩
 ·rw [hx] at H1;clear h hz hx;go_enter Tryz.func23,Tryz.ntmps23
  go_wp2_with fail
  refine H1.out.mono ?_;rintro e w1 ⟨rfl,rfl⟩;go_wp2_with fail
  go_ret
  exact ⟨rfl,rfl⟩
 ·rw [aJ (show (0:Int)<=(i:Int) by omega),aJ (show (i:Int)<(n:Int) by omega)] at H1;obtain ⟨gl,cr',e9,hcr,hrow⟩:=h.lrow (by omega);cases e9;have c0:w.cell? ⟨g,0,none⟩=some (.slice (some ⟨gl,0,none⟩) n cr):=by rw [af h.cell];rfl
  have c1:w.cell? ⟨gl,i,none⟩=some (.pointer (some ⟨os i,0,none⟩)):=hrow i hi;have c3:w.cell? ⟨os i,2,none⟩=some (.bool false):=by rw [af (h.one i hi),hu];rfl
  have hin:(i:Int)<(n:Int):=by omega
  clear h hz hrow hu;go_enter Tryz.func23,Tryz.ntmps23
  go_wp2_with fail
  refine H1.out.mono ?_;rintro e w1 ⟨rfl,rfl⟩;go_wp2_with fail
  go_ret
  exact ⟨rfl,rfl⟩
end
section
variable {w w' w2:World} {A A' X Y Y' Z Z':List Nat} {g n:Nat} {S:Mn} {es es':Cuts} {os rs ds ls:Nat->Nat} {Xs:Nat->List Nat} {vl:Value} {nb mb mb':Nat} {qv lv qv' pn:Value} {q':List Msg} {r d l:Nat} {s:Rp} {k:Dk}
set_option maxHeartbeats 4000000 in
theorem tU (h:Gy w A Z g n S es) (i:Nat) (hi:i<n) (hu:(S.at i).up=false) (hdn:DnI (S.at i).s (S.at i).k) (hsn:(S.at i).s.n=n) (hl0:0<=(S.at i).k.lives) (hl1:(S.at i).k.lives<=1000000) :
  Calls Tryz.prog 24 #[.pointer (some ⟨g,0,none⟩),.int .i64 (i:Int)] w λe w'=>e = .returned (.bool true)/\GyP w w' A Z g n (S.set i ⟨eB i n (S.at i).s (S.at i).k,ep (S.at i).s (S.at i).k,true⟩) es:=by
 have hgy:=h;obtain ⟨Y,os,rs,ds,ls,Xs,vl,nb,mb,qv,lv,h,hz⟩:=h;obtain ⟨gl,cr,rfl,hcr,hrow⟩:=h.lrow (by omega);have H1:=ab (eM h.cell (i:Int));rw [aJ (show (0:Int)<=(i:Int) by omega),aJ (show (i:Int)<(n:Int) by omega)] at H1;have HU:=ab (gB h i hi hu);have hdk:=(h.node i hi).dn hu;have HXA:=ab (h.node i hi).xA;have HON:=ab (Cp hdk (by omega) hl0);obtain ⟨ht,hr,htot,ns,hb,hd,hk,hns⟩:=qk hdn;have HOPEN:Hid (∀V,IsDk V (Xs i) (ds i) (CX (S.at i).k)->(∀b∈A,b<V.heap.size)->Calls Tryz.prog 18 #[.int .i64 (i:Int),.int .i64 (n:Int),.pointer (some ⟨ds i,0,none⟩)] V λe w'=>∃r l A' X',e = .returned (.tuple #[.pointer (some ⟨r,0,none⟩),.int .i64 0])/\Nd w' A' X' r (ds i) l (eB i n (S.at i).s (S.at i).k) (ep (S.at i).s (S.at i).k)/\Mv A A' (Xs i) X' V w'):=ab (λV hv hA=>by
  have h9:=na (A:=A) hv rfl i n h.n5 hi ns (by rw [<-hb];exact ht) (by rw [<-hb];exact hr) htot ((js (dg i n (CX (S.at i).k).lives (ns.map Note.bytes)) (ix n) rfl rfl rfl rfl ns).2.2.2.2 (by rw [<-hsn];exact hk)) hns hA HXA.out;rw [<-hb] at h9;have e:eB i n (S.at i).s (S.at i).k=cA (dg i n ((S.at i).k.lives+1) (dS (S.at i).s (S.at i).k)) ns:=by unfold eB;rw [hd]
  rw [e];exact h9)
 have HF:Hid (∀A' X' r' l' w3,Nd w3 A' X' r' (ds i) l' (eB i n (S.at i).s (S.at i).k) (ep (S.at i).s (S.at i).k)->Mv A A' (Xs i) X' w w3->GyP w ((w3.setCell ⟨os i,1,none⟩ (eg r')).setCell ⟨os i,2,none⟩ (.bool true)) A Z g n (S.set i ⟨eB i n (S.at i).s (S.at i).k,ep (S.at i).s (S.at i).k,true⟩) es):=ab λA' X' r' l' w3 h3 m3=>h.backed (nd:=⟨eB i n (S.at i).s (S.at i).k,ep (S.at i).s (S.at i).k,true⟩) hz hi m3 h3 rfl;have hno:∀b∈Y,b∉Xs i:=λb hb hd=>h.yx i hi b hb hd;have c0:w.cell? ⟨g,0,none⟩=some (.slice (some ⟨gl,0,none⟩) n cr):=by rw [af h.cell];rfl
 have c1:w.cell? ⟨gl,i,none⟩=some (.pointer (some ⟨os i,0,none⟩)):=hrow i hi;have c2:w.cell? ⟨os i,0,none⟩=some (.pointer (some ⟨ds i,0,none⟩)):=by rw [af (h.one i hi)];rfl
 have HK:Hid (∀w2,Only (Xs i) w w2->w2.cell? ⟨g,0,none⟩=some (.slice (some ⟨gl,0,none⟩) n cr)/\w2.cell? ⟨os i,0,none⟩=some (.pointer (some ⟨ds i,0,none⟩))/\w2.heap[os i]? = some (.cells #[eg (ds i),eg (rs i),.bool false] 58 (0,0))):=ab λw2 ho =>
  ⟨ho.cell c0 (hno _ h.gY),ho.cell c2 (hno _ (h.oY i hi)),by have:=ho.keeps (h.one i hi) (hno _ (h.oY i hi));rw [hu] at this;exact this⟩
 have HA:=ab h.alt;have hin:(i:Int)<(n:Int):=by omega
 have hn5:=h.n5;clear hgy h hz hrow hu hdn hsn hl0 hl1 hdk ht hr htot hb hd hk hns hno;have HSET:Hid (∀x,S.set i x=S.set i x):=ab λ_=>rfl;generalize S.set i ⟨eB i n (S.at i).s (S.at i).k,ep (S.at i).s (S.at i).k,true⟩=S2 at *;generalize eB i n (S.at i).s (S.at i).k=sb at *;generalize ep (S.at i).s (S.at i).k=kb at *;go_enter Tryz.func24,Tryz.ntmps24
 go_wp2_with fail
 refine H1.out.mono ?_;rintro e w1 ⟨rfl,rfl⟩;go_wp2_with fail
 refine HU.out.mono ?_;rintro e w1 ⟨rfl,rfl⟩;go_wp2_with fail
 refine HON.out.mono ?_;rintro e w2 ⟨rfl,hd2,ho2⟩;have HO2:=ab ho2;obtain ⟨k0,k2,_⟩:=HK.out _ ho2;have hA2:∀b∈A,b<w2.drew.heap.size:=λb hb=>aE (HA.out b hb) ho2.size;have HOP:=ab (HOPEN.out w2.drew (IsDk.below hd2 (ak w2 1)) hA2);have HMX:Hid (Mv A A (Xs i) (Xs i) w w2.drew):=ab ((Mv.only ho2 (λb hb=>hb)).trans (Mv.below (ak w2 1)));clear hd2 ho2 hA2;go_wp2_with fail
 go_region_with (go_at_call 18;refine HOP.out.mono ?_;rintro e w3 ⟨r',l',A3,X3,rfl,h3,m3⟩;obtain ⟨_,_,j2⟩:=HK.out _ (HMX.out.trans m3).mv.only;have HG:=ab (HF.out A3 X3 r' l' w3 h3 (HMX.out.trans m3));clear h3 m3)
 all_goals
  have z1:=aM j2 1;have z2:=aM (aR j2 1 (eg r')) 2;have j3:w3.cell? ⟨os i,1,none⟩=some (.pointer (some ⟨rs i,0,none⟩)):=by rw [af j2];rfl
  have j4:(w3.setCell ⟨os i,1,none⟩ (eg r')).cell? ⟨os i,2,none⟩=some (.bool false):=by rw [af (aR j2 1 (eg r'))];rfl
  unfold eg at z2 j4 HG;clear j2 k0 k2;go_wp2_with fail
  go_ret
  exact ⟨rfl,HG.out⟩
set_option maxHeartbeats 2000000 in
theorem zW (h:Gy w A Z g n S es) (hU:mA n S) (x:Int) (hx:(decide (0<=x)&&decide (x<(n:Int)))=false) :
  Calls Tryz.prog 24 #[.pointer (some ⟨g,0,none⟩),.int .i64 x] w λe w'=>e = .returned (.bool false)/\w=w':=by
 obtain ⟨Y,os,rs,ds,ls,Xs,vl,nb,mb,qv,lv,h,hz⟩:=h;obtain ⟨ar,cr,e1,_,_⟩:=du h.lr;subst e1;have H1:=ab (eM h.cell x);rw [hx] at H1;clear h hz hx hU;go_enter Tryz.func24,Tryz.ntmps24
 go_wp2_with fail
 refine H1.out.mono ?_;rintro e w1 ⟨rfl,rfl⟩;go_wp2_with fail
 go_ret
 exact ⟨rfl,rfl⟩
set_option maxHeartbeats 2000000 in
theorem zV (h:Gy w A Z g n S es) (hU:mA n S) (i:Nat) (hi:i<n) (hu:(S.at i).up=true) :
  Calls Tryz.prog 24 #[.pointer (some ⟨g,0,none⟩),.int .i64 (i:Int)] w λe w'=>e = .returned (.bool false)/\GyP w w' A Z g n S es:=by
 obtain ⟨Y,os,rs,ds,ls,Xs,vl,nb,mb,qv,lv,h,hz⟩:=h;obtain ⟨ar,cr,e1,_,_⟩:=du h.lr;subst e1;have H1:=ab (eM h.cell (i:Int));rw [aJ (show (0:Int)<=(i:Int) by omega),aJ (show (i:Int)<(n:Int) by omega)] at H1;have HU:=ab (jz h i hi hu (hU i hi hu).2);have HZ:=ab hz;clear h hz hU hu;go_enter Tryz.func24,Tryz.ntmps24
 go_wp2_with fail
 refine H1.out.mono ?_;rintro e w1 ⟨rfl,rfl⟩;go_wp2_with fail
 refine HU.out.mono ?_;rintro e w2 ⟨rfl,hc2,ho2,hrx⟩;have HG:Hid (GyP w w2 A Z g n S es):=ab ⟨A,Z,⟨_,_,_,_,_,_,_,_,_,_,_,hc2,HZ.out⟩,Mv.only ho2 (λb hb=>by rw [aj.1 hb];exact (HZ.out _).2 (.inr ⟨i,hi,hrx⟩))⟩;clear hc2 ho2 hrx;go_wp2_with fail
 go_ret
 exact ⟨rfl,HG.out⟩
end
section
variable {w:World} {g:Nat} {Q:Bool->World->Prop}
set_option maxHeartbeats 2000000 in
theorem zO (N K:Int) (ba:Option Addr) (bl bc:Nat) (HC:∀w1,Below w.heap.size w w1->Calls Tryz.prog 19 #[.pointer (some ⟨g,0,none⟩),.int .i64 N] w1 λe w'=>∃b,e = .returned (.bool b)/\Q b w') :
  Calls Tryz.prog 9 #[.pointer (some ⟨g,0,none⟩),.agg #[.int .i64 0,.int .i64 N,.int .i64 K,.slice ba bl bc]] w λe w'=>∃b,e = .returned (.bool b)/\Q b w':=by
 have hbw:Below w.heap.size w (w.alloc (.cells #[.int .i64 0,.int .i64 N,.int .i64 K,.slice ba bl bc] 33)):=(az _ _).alloc (ah _) _;have hbx:=aK w (.cells #[.int .i64 0,.int .i64 N,.int .i64 K,.slice ba bl bc] 33);have k0:(w.alloc (.cells #[.int .i64 0,.int .i64 N,.int .i64 K,.slice ba bl bc] 33)).cell? ⟨w.heap.size,0,none⟩=some (.int .i64 0):=by rw [af hbx];rfl
 have k1:(w.alloc (.cells #[.int .i64 0,.int .i64 N,.int .i64 K,.slice ba bl bc] 33)).cell? ⟨w.heap.size,1,none⟩=some (.int .i64 N):=by rw [af hbx];rfl
 have k2:(w.alloc (.cells #[.int .i64 0,.int .i64 N,.int .i64 K,.slice ba bl bc] 33)).cell? ⟨w.heap.size,2,none⟩=some (.int .i64 K):=by rw [af hbx];rfl
 have k3:(w.alloc (.cells #[.int .i64 0,.int .i64 N,.int .i64 K,.slice ba bl bc] 33)).cell? ⟨w.heap.size,3,none⟩=some (.slice ba bl bc):=by rw [af hbx];rfl
 have HC1:=ab (HC _ hbw);clear HC hbw hbx;go_enter Tryz.func9,Tryz.ntmps9
 go_wp2_with fail
 refine HC1.out.mono ?_;rintro e w1 ⟨b,rfl,hq⟩;have HQ:=ab hq;clear hq;go_wp2_with fail
 go_ret
 exact ⟨b,rfl,HQ.out⟩
set_option maxHeartbeats 2000000 in
theorem wN (N K:Int) (ba:Option Addr) (bl bc:Nat) (HC:∀w1,Below w.heap.size w w1->Calls Tryz.prog 20 #[.pointer (some ⟨g,0,none⟩),.int .i64 N] w1 λe w'=>∃b,e = .returned (.bool b)/\Q b w') :
  Calls Tryz.prog 9 #[.pointer (some ⟨g,0,none⟩),.agg #[.int .i64 1,.int .i64 N,.int .i64 K,.slice ba bl bc]] w λe w'=>∃b,e = .returned (.bool b)/\Q b w':=by
 have hbw:Below w.heap.size w (w.alloc (.cells #[.int .i64 1,.int .i64 N,.int .i64 K,.slice ba bl bc] 33)):=(az _ _).alloc (ah _) _;have hbx:=aK w (.cells #[.int .i64 1,.int .i64 N,.int .i64 K,.slice ba bl bc] 33);have k0:(w.alloc (.cells #[.int .i64 1,.int .i64 N,.int .i64 K,.slice ba bl bc] 33)).cell? ⟨w.heap.size,0,none⟩=some (.int .i64 1):=by rw [af hbx];rfl
 have k1:(w.alloc (.cells #[.int .i64 1,.int .i64 N,.int .i64 K,.slice ba bl bc] 33)).cell? ⟨w.heap.size,1,none⟩=some (.int .i64 N):=by rw [af hbx];rfl
 have k2:(w.alloc (.cells #[.int .i64 1,.int .i64 N,.int .i64 K,.slice ba bl bc] 33)).cell? ⟨w.heap.size,2,none⟩=some (.int .i64 K):=by rw [af hbx];rfl
 have k3:(w.alloc (.cells #[.int .i64 1,.int .i64 N,.int .i64 K,.slice ba bl bc] 33)).cell? ⟨w.heap.size,3,none⟩=some (.slice ba bl bc):=by rw [af hbx];rfl
 have HC1:=ab (HC _ hbw);clear HC hbw hbx;go_enter Tryz.func9,Tryz.ntmps9
 go_wp2_with fail
 refine HC1.out.mono ?_;rintro e w1 ⟨b,rfl,hq⟩;have HQ:=ab hq;clear hq;go_wp2_with fail
 go_ret
 exact ⟨b,rfl,HQ.out⟩
set_option maxHeartbeats 2000000 in
theorem zR (N K:Int) (ba:Option Addr) (bl bc:Nat) (nb:Nat) (hn:w.cell? ⟨g,1,none⟩=some (.pointer (some ⟨nb,0,none⟩))) (HC:∀w1,Below w.heap.size w w1->Calls Tryz.prog 21 #[.pointer (some ⟨nb,0,none⟩),.int .i64 N] w1 λe w'=>∃b,e = .returned (.bool b)/\Q b w') :
  Calls Tryz.prog 9 #[.pointer (some ⟨g,0,none⟩),.agg #[.int .i64 2,.int .i64 N,.int .i64 K,.slice ba bl bc]] w λe w'=>∃b,e = .returned (.bool b)/\Q b w':=by
 have hbw:Below w.heap.size w (w.alloc (.cells #[.int .i64 2,.int .i64 N,.int .i64 K,.slice ba bl bc] 33)):=(az _ _).alloc (ah _) _;have hbx:=aK w (.cells #[.int .i64 2,.int .i64 N,.int .i64 K,.slice ba bl bc] 33);have k0:(w.alloc (.cells #[.int .i64 2,.int .i64 N,.int .i64 K,.slice ba bl bc] 33)).cell? ⟨w.heap.size,0,none⟩=some (.int .i64 2):=by rw [af hbx];rfl
 have k1:(w.alloc (.cells #[.int .i64 2,.int .i64 N,.int .i64 K,.slice ba bl bc] 33)).cell? ⟨w.heap.size,1,none⟩=some (.int .i64 N):=by rw [af hbx];rfl
 have k2:(w.alloc (.cells #[.int .i64 2,.int .i64 N,.int .i64 K,.slice ba bl bc] 33)).cell? ⟨w.heap.size,2,none⟩=some (.int .i64 K):=by rw [af hbx];rfl
 have k3:(w.alloc (.cells #[.int .i64 2,.int .i64 N,.int .i64 K,.slice ba bl bc] 33)).cell? ⟨w.heap.size,3,none⟩=some (.slice ba bl bc):=by rw [af hbx];rfl
 have hn1:(w.alloc (.cells #[.int .i64 2,.int .i64 N,.int .i64 K,.slice ba bl bc] 33)).cell? ⟨g,1,none⟩=some (.pointer (some ⟨nb,0,none⟩)):=cell_later hbw hn;have HC1:=ab (HC _ (hbw.trans ((bq _).mono hbw.size)));clear HC hbw hbx hn;go_enter Tryz.func9,Tryz.ntmps9
 go_wp2_with fail
 go_region_with (go_at_call 21;refine HC1.out.mono ?_;rintro e w1 ⟨b,rfl,hq⟩;have HQ:=ab hq;clear hq)
 all_goals
  clear k0 k1 k2 k3 hn1;go_wp2_with fail
  go_ret
  exact ⟨b,rfl,HQ.out⟩
set_option maxHeartbeats 2000000 in
theorem zS (N K:Int) (ba:Option Addr) (bl bc:Nat) (nb:Nat) (hn:w.cell? ⟨g,1,none⟩=some (.pointer (some ⟨nb,0,none⟩))) (HC:∀w1,Below w.heap.size w w1->Calls Tryz.prog 22 #[.pointer (some ⟨nb,0,none⟩),.int .i64 N] w1 λe w'=>∃b,e = .returned (.bool b)/\Q b w') :
  Calls Tryz.prog 9 #[.pointer (some ⟨g,0,none⟩),.agg #[.int .i64 3,.int .i64 N,.int .i64 K,.slice ba bl bc]] w λe w'=>∃b,e = .returned (.bool b)/\Q b w':=by
 have hbw:Below w.heap.size w (w.alloc (.cells #[.int .i64 3,.int .i64 N,.int .i64 K,.slice ba bl bc] 33)):=(az _ _).alloc (ah _) _;have hbx:=aK w (.cells #[.int .i64 3,.int .i64 N,.int .i64 K,.slice ba bl bc] 33);have k0:(w.alloc (.cells #[.int .i64 3,.int .i64 N,.int .i64 K,.slice ba bl bc] 33)).cell? ⟨w.heap.size,0,none⟩=some (.int .i64 3):=by rw [af hbx];rfl
 have k1:(w.alloc (.cells #[.int .i64 3,.int .i64 N,.int .i64 K,.slice ba bl bc] 33)).cell? ⟨w.heap.size,1,none⟩=some (.int .i64 N):=by rw [af hbx];rfl
 have k2:(w.alloc (.cells #[.int .i64 3,.int .i64 N,.int .i64 K,.slice ba bl bc] 33)).cell? ⟨w.heap.size,2,none⟩=some (.int .i64 K):=by rw [af hbx];rfl
 have k3:(w.alloc (.cells #[.int .i64 3,.int .i64 N,.int .i64 K,.slice ba bl bc] 33)).cell? ⟨w.heap.size,3,none⟩=some (.slice ba bl bc):=by rw [af hbx];rfl
 have hn1:(w.alloc (.cells #[.int .i64 3,.int .i64 N,.int .i64 K,.slice ba bl bc] 33)).cell? ⟨g,1,none⟩=some (.pointer (some ⟨nb,0,none⟩)):=cell_later hbw hn;have HC1:=ab (HC _ (hbw.trans ((bq _).mono hbw.size)));clear HC hbw hbx hn;go_enter Tryz.func9,Tryz.ntmps9
 go_wp2_with fail
 go_region_with (go_at_call 22;refine HC1.out.mono ?_;rintro e w1 ⟨b,rfl,hq⟩;have HQ:=ab hq;clear hq)
 all_goals
  clear k0 k1 k2 k3 hn1;go_wp2_with fail
  go_ret
  exact ⟨b,rfl,HQ.out⟩
set_option maxHeartbeats 2000000 in
theorem wM (N K:Int) (ba:Option Addr) (bl bc:Nat) (HC:∀w1,Below w.heap.size w w1->Calls Tryz.prog 23 #[.pointer (some ⟨g,0,none⟩),.int .i64 N,.int .i64 K] w1 λe w'=>∃b,e = .returned (.bool b)/\Q b w') :
  Calls Tryz.prog 9 #[.pointer (some ⟨g,0,none⟩),.agg #[.int .i64 4,.int .i64 N,.int .i64 K,.slice ba bl bc]] w λe w'=>∃b,e = .returned (.bool b)/\Q b w':=by
 have hbw:Below w.heap.size w (w.alloc (.cells #[.int .i64 4,.int .i64 N,.int .i64 K,.slice ba bl bc] 33)):=(az _ _).alloc (ah _) _;have hbx:=aK w (.cells #[.int .i64 4,.int .i64 N,.int .i64 K,.slice ba bl bc] 33);have k0:(w.alloc (.cells #[.int .i64 4,.int .i64 N,.int .i64 K,.slice ba bl bc] 33)).cell? ⟨w.heap.size,0,none⟩=some (.int .i64 4):=by rw [af hbx];rfl
 have k1:(w.alloc (.cells #[.int .i64 4,.int .i64 N,.int .i64 K,.slice ba bl bc] 33)).cell? ⟨w.heap.size,1,none⟩=some (.int .i64 N):=by rw [af hbx];rfl
 have k2:(w.alloc (.cells #[.int .i64 4,.int .i64 N,.int .i64 K,.slice ba bl bc] 33)).cell? ⟨w.heap.size,2,none⟩=some (.int .i64 K):=by rw [af hbx];rfl
 have k3:(w.alloc (.cells #[.int .i64 4,.int .i64 N,.int .i64 K,.slice ba bl bc] 33)).cell? ⟨w.heap.size,3,none⟩=some (.slice ba bl bc):=by rw [af hbx];rfl
 have HC1:=ab (HC _ hbw);clear HC hbw hbx;go_enter Tryz.func9,Tryz.ntmps9
 go_wp2_with fail
 refine HC1.out.mono ?_;rintro e w1 ⟨b,rfl,hq⟩;have HQ:=ab hq;clear hq;go_wp2_with fail
 go_ret
 exact ⟨b,rfl,HQ.out⟩
set_option maxHeartbeats 2000000 in
theorem zT (N K:Int) (ba:Option Addr) (bl bc:Nat) (HC:∀w1,Below w.heap.size w w1->Calls Tryz.prog 24 #[.pointer (some ⟨g,0,none⟩),.int .i64 N] w1 λe w'=>∃b,e = .returned (.bool b)/\Q b w') :
  Calls Tryz.prog 9 #[.pointer (some ⟨g,0,none⟩),.agg #[.int .i64 5,.int .i64 N,.int .i64 K,.slice ba bl bc]] w λe w'=>∃b,e = .returned (.bool b)/\Q b w':=by
 have hbw:Below w.heap.size w (w.alloc (.cells #[.int .i64 5,.int .i64 N,.int .i64 K,.slice ba bl bc] 33)):=(az _ _).alloc (ah _) _;have hbx:=aK w (.cells #[.int .i64 5,.int .i64 N,.int .i64 K,.slice ba bl bc] 33);have k0:(w.alloc (.cells #[.int .i64 5,.int .i64 N,.int .i64 K,.slice ba bl bc] 33)).cell? ⟨w.heap.size,0,none⟩=some (.int .i64 5):=by rw [af hbx];rfl
 have k1:(w.alloc (.cells #[.int .i64 5,.int .i64 N,.int .i64 K,.slice ba bl bc] 33)).cell? ⟨w.heap.size,1,none⟩=some (.int .i64 N):=by rw [af hbx];rfl
 have k2:(w.alloc (.cells #[.int .i64 5,.int .i64 N,.int .i64 K,.slice ba bl bc] 33)).cell? ⟨w.heap.size,2,none⟩=some (.int .i64 K):=by rw [af hbx];rfl
 have k3:(w.alloc (.cells #[.int .i64 5,.int .i64 N,.int .i64 K,.slice ba bl bc] 33)).cell? ⟨w.heap.size,3,none⟩=some (.slice ba bl bc):=by rw [af hbx];rfl
 have HC1:=ab (HC _ hbw);clear HC hbw hbx;go_enter Tryz.func9,Tryz.ntmps9
 go_wp2_with fail
 refine HC1.out.mono ?_;rintro e w1 ⟨b,rfl,hq⟩;have HQ:=ab hq;clear hq;go_wp2_with fail
 go_ret
 exact ⟨b,rfl,HQ.out⟩
set_option maxHeartbeats 2000000 in
theorem BH (N K:Int) (ba:Option Addr) (bl bc:Nat) (HC:∀w1,Below w.heap.size w w1->Calls Tryz.prog 25 #[.pointer (some ⟨g,0,none⟩),.int .i64 N,.int .i64 K,.bool true] w1 λe w'=>∃b,e = .returned (.bool b)/\Q b w') :
  Calls Tryz.prog 9 #[.pointer (some ⟨g,0,none⟩),.agg #[.int .i64 6,.int .i64 N,.int .i64 K,.slice ba bl bc]] w λe w'=>∃b,e = .returned (.bool b)/\Q b w':=by
 have hbw:Below w.heap.size w (w.alloc (.cells #[.int .i64 6,.int .i64 N,.int .i64 K,.slice ba bl bc] 33)):=(az _ _).alloc (ah _) _;have hbx:=aK w (.cells #[.int .i64 6,.int .i64 N,.int .i64 K,.slice ba bl bc] 33);have k0:(w.alloc (.cells #[.int .i64 6,.int .i64 N,.int .i64 K,.slice ba bl bc] 33)).cell? ⟨w.heap.size,0,none⟩=some (.int .i64 6):=by rw [af hbx];rfl
 have k1:(w.alloc (.cells #[.int .i64 6,.int .i64 N,.int .i64 K,.slice ba bl bc] 33)).cell? ⟨w.heap.size,1,none⟩=some (.int .i64 N):=by rw [af hbx];rfl
 have k2:(w.alloc (.cells #[.int .i64 6,.int .i64 N,.int .i64 K,.slice ba bl bc] 33)).cell? ⟨w.heap.size,2,none⟩=some (.int .i64 K):=by rw [af hbx];rfl
 have k3:(w.alloc (.cells #[.int .i64 6,.int .i64 N,.int .i64 K,.slice ba bl bc] 33)).cell? ⟨w.heap.size,3,none⟩=some (.slice ba bl bc):=by rw [af hbx];rfl
 have HC1:=ab (HC _ hbw);clear HC hbw hbx;go_enter Tryz.func9,Tryz.ntmps9
 go_wp2_with fail
 refine HC1.out.mono ?_;rintro e w1 ⟨b,rfl,hq⟩;have HQ:=ab hq;clear hq;go_wp2_with fail
 go_ret
 exact ⟨b,rfl,HQ.out⟩
set_option maxHeartbeats 2000000 in
theorem wL (N K:Int) (ba:Option Addr) (bl bc:Nat) (HC:∀w1,Below w.heap.size w w1->Calls Tryz.prog 25 #[.pointer (some ⟨g,0,none⟩),.int .i64 N,.int .i64 K,.bool false] w1 λe w'=>∃b,e = .returned (.bool b)/\Q b w') :
  Calls Tryz.prog 9 #[.pointer (some ⟨g,0,none⟩),.agg #[.int .i64 7,.int .i64 N,.int .i64 K,.slice ba bl bc]] w λe w'=>∃b,e = .returned (.bool b)/\Q b w':=by
 have hbw:Below w.heap.size w (w.alloc (.cells #[.int .i64 7,.int .i64 N,.int .i64 K,.slice ba bl bc] 33)):=(az _ _).alloc (ah _) _;have hbx:=aK w (.cells #[.int .i64 7,.int .i64 N,.int .i64 K,.slice ba bl bc] 33);have k0:(w.alloc (.cells #[.int .i64 7,.int .i64 N,.int .i64 K,.slice ba bl bc] 33)).cell? ⟨w.heap.size,0,none⟩=some (.int .i64 7):=by rw [af hbx];rfl
 have k1:(w.alloc (.cells #[.int .i64 7,.int .i64 N,.int .i64 K,.slice ba bl bc] 33)).cell? ⟨w.heap.size,1,none⟩=some (.int .i64 N):=by rw [af hbx];rfl
 have k2:(w.alloc (.cells #[.int .i64 7,.int .i64 N,.int .i64 K,.slice ba bl bc] 33)).cell? ⟨w.heap.size,2,none⟩=some (.int .i64 K):=by rw [af hbx];rfl
 have k3:(w.alloc (.cells #[.int .i64 7,.int .i64 N,.int .i64 K,.slice ba bl bc] 33)).cell? ⟨w.heap.size,3,none⟩=some (.slice ba bl bc):=by rw [af hbx];rfl
 have HC1:=ab (HC _ hbw);clear HC hbw hbx;go_enter Tryz.func9,Tryz.ntmps9
 go_wp2_with fail
 refine HC1.out.mono ?_;rintro e w1 ⟨b,rfl,hq⟩;have HQ:=ab hq;clear hq;go_wp2_with fail
 go_ret
 exact ⟨b,rfl,HQ.out⟩
set_option maxHeartbeats 2000000 in
theorem zP (N K:Int) (ba:Option Addr) (bl bc:Nat) (HC:∀w1,Below w.heap.size w w1->Calls Tryz.prog 26 #[.pointer (some ⟨g,0,none⟩),.int .i64 N,.slice ba bl bc] w1 λe w'=>∃b,e = .returned (.bool b)/\Q b w') :
  Calls Tryz.prog 9 #[.pointer (some ⟨g,0,none⟩),.agg #[.int .i64 8,.int .i64 N,.int .i64 K,.slice ba bl bc]] w λe w'=>∃b,e = .returned (.bool b)/\Q b w':=by
 have hbw:Below w.heap.size w (w.alloc (.cells #[.int .i64 8,.int .i64 N,.int .i64 K,.slice ba bl bc] 33)):=(az _ _).alloc (ah _) _;have hbx:=aK w (.cells #[.int .i64 8,.int .i64 N,.int .i64 K,.slice ba bl bc] 33);have k0:(w.alloc (.cells #[.int .i64 8,.int .i64 N,.int .i64 K,.slice ba bl bc] 33)).cell? ⟨w.heap.size,0,none⟩=some (.int .i64 8):=by rw [af hbx];rfl
 have k1:(w.alloc (.cells #[.int .i64 8,.int .i64 N,.int .i64 K,.slice ba bl bc] 33)).cell? ⟨w.heap.size,1,none⟩=some (.int .i64 N):=by rw [af hbx];rfl
 have k2:(w.alloc (.cells #[.int .i64 8,.int .i64 N,.int .i64 K,.slice ba bl bc] 33)).cell? ⟨w.heap.size,2,none⟩=some (.int .i64 K):=by rw [af hbx];rfl
 have k3:(w.alloc (.cells #[.int .i64 8,.int .i64 N,.int .i64 K,.slice ba bl bc] 33)).cell? ⟨w.heap.size,3,none⟩=some (.slice ba bl bc):=by rw [af hbx];rfl
 have HC1:=ab (HC _ hbw);clear HC hbw hbx;go_enter Tryz.func9,Tryz.ntmps9
 go_wp2_with fail
 refine HC1.out.mono ?_;rintro e w1 ⟨b,rfl,hq⟩;have HQ:=ab hq;clear hq;go_wp2_with fail
 go_ret
 exact ⟨b,rfl,HQ.out⟩
set_option maxHeartbeats 2000000 in
theorem zQ (o N K:Int) (ba:Option Addr) (bl bc:Nat) (ho:o<0\/8<o) :
  Calls Tryz.prog 9 #[.pointer (some ⟨g,0,none⟩),.agg #[.int .i64 o,.int .i64 N,.int .i64 K,.slice ba bl bc]] w λe w'=>e = .returned (.bool false)/\Below w.heap.size w w':=by
 have hbw:Below w.heap.size w (w.alloc (.cells #[.int .i64 o,.int .i64 N,.int .i64 K,.slice ba bl bc] 33)):=(az _ _).alloc (ah _) _;have hbx:=aK w (.cells #[.int .i64 o,.int .i64 N,.int .i64 K,.slice ba bl bc] 33);have k0:(w.alloc (.cells #[.int .i64 o,.int .i64 N,.int .i64 K,.slice ba bl bc] 33)).cell? ⟨w.heap.size,0,none⟩=some (.int .i64 o):=by rw [af hbx];rfl
 have HB:=ab hbw;have e0:¬o=0:=by omega
 have e1:¬o=1:=by omega
 have e2:¬o=2:=by omega
 have e3:¬o=3:=by omega
 have e4:¬o=4:=by omega
 have e5:¬o=5:=by omega
 have e6:¬o=6:=by omega
 have e7:¬o=7:=by omega
 have e8:¬o=8:=by omega
 clear hbw hbx ho;go_enter Tryz.func9,Tryz.ntmps9
 go_wp2_with fail
 go_ret
 exact ⟨rfl,HB.out⟩
end
end Go.Proofs.YtnhefallmioefaaGreat
