/-
  What the proof of the law leans on: contracts of the program's functions, one behind another. No condition.
-/
import Derived.Test.YtnhefallmioefaaGreatV0
import Derived.Test.YtnhefallmioefaaGreatV23
import Derived.Test.YtnhefallmioefaaGreatV17
import Derived.Test.YtnhefallmioefaaGreatV3
set_option linter.unusedVariables false
set_option linter.unusedSimpArgs false
namespace Go.Proofs.YtnhefallmioefaaGreat
set_option maxRecDepth 20000
def Mn.sendC (ct:Msg->Bool) (S:Mn) (ms:List Msg):Mn:={ S with q:=ms.foldl (fz ct) S.q }
def Mn.tell (n:Nat) (S:Mn):Mn:={ S with long:=fq S n 0 S.long }
def Mn.turnC (n:Nat) (ct:Msg->Bool) (S:Mn) (i:Nat) (p:List Msg×Rp×Dk):Mn:=((S.set i ⟨p.2.1,p.2.2,true⟩).sendC ct p.1).tell n
def Mn.tickC (n:Nat) (ct:Msg->Bool) (S:Mn) (i:Nat):Mn:=if (S.at i).up then S.turnC n ct i (dX (S.at i).s (S.at i).k) else S
def Mn.bringC (n:Nat) (ct:Msg->Bool) (S:Mn) (m:Msg):Mn:=if (S.at m.dst.toNat).up then S.turnC n ct m.dst.toNat (fw (S.at m.dst.toNat).s (S.at m.dst.toNat).k m) else S
def Mn.submC (n:Nat) (ct:Msg->Bool) (S:Mn) (i:Nat) (rec:List UInt8):Mn :=
 if (S.at i).up then S.turnC n ct i ((bw (S.at i).s (S.at i).k rec).1,(bw (S.at i).s (S.at i).k rec).2.2.1,(bw (S.at i).s (S.at i).k rec).2.2.2) else S
def Mn.loseC (S:Mn) (k:Nat):Mn:={ S with q:=S.q.take k++S.q.drop (k+1)}
def Mn.copyC (S:Mn) (k:Nat):Mn:=match S.q[k]? with
 | none=>S
 | some m=>{ S with q:=fK S.q m }
def Mn.crashC (S:Mn) (i:Nat) (keep:Int):Mn:=if (S.at i).up then S.crash i keep else S
theorem Au (ct:Msg->Bool) (ms:List Msg):∀(q:List Msg),∀m∈ms.foldl (fz ct) q,m∈q\/m∈ms:=by
 induction ms with
 | nil=>exact λq m hm=>.inl hm
 | cons a l ih =>
  intro q m hm;rcases ih _ m hm with h | h
  ·unfold fz at h;split at h
   ·exact .inl h
   ·unfold fK at h;split at h
    ·rcases ap.1 h with g | g
     ·exact .inl g
     ·rw [aj.1 g];exact .inr cz
    ·exact .inl h
  ·exact .inr (aU _ h)
section
variable {n cl lv a c:Nat} {S:Mn}
theorem BInv.sendC {fr:Nat} (ct:Msg->Bool) (h:BInv n cl lv S) (ms:List Msg) (hf:fr<n) (hm:∀m∈ms,GoodM fr n m):BInv n cl lv (S.sendC ct ms) :=
 ⟨⟨h.sv.nl,h.sv.id,h.sv.wf,λm hm2=>by
  rcases Au ct _ _ _ hm2 with h1 | h1
  ·exact h.sv.q m h1
  ·exact ⟨fr,hf,hm m h1⟩,sI ct _ _ h.sv.ql⟩,h.n1,h.n5,h.up,h.dn,h.liv,h.gn⟩
theorem BInv.tell (h:BInv n cl lv S):BInv n cl lv (S.tell n):=⟨⟨h.sv.nl,h.sv.id,h.sv.wf,h.sv.q,h.sv.ql⟩,h.n1,h.n5,h.up,h.dn,h.liv,h.gn⟩
theorem BInv.turnC {i d:Nat} (ct:Msg->Bool) {p:List Msg×Rp×Dk} (h:BInv n cl lv S) (hi:i<n) (hu:(S.at i).up=true) (ho:Out (S.at i).s d p) (hk:KS (S.at i).k p.2.2) (hn:NOk p.2.1) (hg:Gr (S.at i).s p.2.1) :
  BInv n (cl+d) lv (S.turnC n ct i p):=by
 have ht:=Turn.of h hi hu ho hk hn hg;have h2:BInv n (cl+d) lv (S.set i ⟨p.2.1,p.2.2,true⟩):=(h.mono (eA _ _) (ah _)).set hi ⟨ht.own,ht.nn,ht.up,ht.dn,ht.liv⟩;refine (h2.sendC (fr:=i) ct p.1 hi λm hm=>?_).tell;have h9:=ho.ms m hm;rw [(h.sv.id i hi).1,(h.sv.id i hi).2] at h9;exact h9
theorem BInv.tickC (ct:Msg->Bool) (h:BInv n cl lv S) (i:Nat) (hi:i<n):BInv n (cl+1) lv (S.tickC n ct i):=by
 unfold Mn.tickC;split
 ·rename_i hu;have h1:=(h.up i hi hu).1;exact h.turnC ct hi hu (rb h1.wf) Bn (yM h1.nok h1.wf) (AO h1.wf).gr
 ·exact h.mono (cf _) (ah _)
theorem BInv.bringC (ct:Msg->Bool) (h:BInv n cl lv S) (m:Msg) (h0:0<=m.dst) (h1:m.dst<(n:Int)):BInv n cl lv (S.bringC n ct m):=by
 unfold Mn.bringC;split
 ·rename_i hu;have hi:m.dst.toNat<n:=by omega
  have h2:=(h.up _ hi hu).1;exact h.turnC (d:=0) ct hi hu (uB h2.wf m) (Cx m) (Bb h2.nok h2.wf m) (Ch h2.wf m).gr
 ·exact h
theorem BInv.submC (ct:Msg->Bool) (h:BInv n cl lv S) (i:Nat) (hi:i<n) (rec:List UInt8):BInv n cl lv (S.submC n ct i rec):=by
 unfold Mn.submC;split
 ·rename_i hu;have h1:=(h.up i hi hu).1;exact h.turnC (d:=0) ct hi hu (nu h1.wf rec) (wD rec) (tA h1.nok rec) (wF h1.wf rec)
 ·exact h
theorem za (S:Mn) (k:Nat):∀m∈(S.loseC k).q,m∈S.q:=λm hm=>by
 rcases ap.1 hm with g | g
 ·exact eK g
 ·exact mK g
theorem BInv.loseC (h:BInv n cl lv S) (k:Nat):BInv n cl lv (S.loseC k):=h.ofq (za S k) (by
 have:=h.sv.ql;rw [ay,aI,bz];omega)
theorem BInv.copyC (h:BInv n cl lv S) (k:Nat):BInv n cl lv (S.copyC k):=by
 unfold Mn.copyC;split
 ·exact h
 ·rename_i m hm;refine ⟨⟨h.sv.nl,h.sv.id,h.sv.wf,λx hx=>?_,sH _ _ h.sv.ql⟩,h.n1,h.n5,h.up,h.dn,h.liv,h.gn⟩;have hx:x∈fK S.q m:=hx;unfold fK at hx;split at hx
  ·rcases ap.1 hx with g | g
   ·exact h.sv.q x g
   ·rw [aj.1 g];exact h.sv.q m (fM hm)
  ·exact h.sv.q x hx
theorem BInv.crashC (h:BInv n cl lv S) (i:Nat) (hi:i<n) (keep:Int):BInv n cl lv (S.crashC i keep):=by
 unfold Mn.crashC;split
 ·exact h.crash i hi keep
 ·exact h
end
def cY:Msg->Bool:=λ_=>false
def Mn.ticksC (n:Nat) (ct:Msg->Bool) (S:Mn) (k:Nat):Mn:=(List.range k).foldl (Mn.tickC n ct) S
def Mn.drainC (n:Nat) (ct:Msg->Bool):Nat->Mn->Mn
 | 0,S=>S
 | f+1,S=>match S.q with
  | []=>S
  | m::q=>Mn.drainC n ct f (({ S with q:=q }:Mn).bringC n ct m)
def Mn.calmC (n:Nat) (ct:Msg->Bool):Nat->Mn->Mn
 | 0,S=>S
 | r+1,S=>Mn.calmC n ct r ((S.ticksC n ct n).drainC n ct 3000)
section
variable {n cl lv:Nat} {S:Mn} {ct:Msg->Bool}
theorem BInv.ticksC (h:BInv n cl lv S) (k:Nat) (hk:k<=n):BInv n (cl+k) lv (S.ticksC n ct k):=by
 induction k with
 | zero=>exact h
 | succ k ih =>
  have e:S.ticksC n ct (k+1)=(S.ticksC n ct k).tickC n ct k:=by unfold Mn.ticksC;rw [dT,fN];rfl
  rw [e];exact (ih (by omega)).tickC ct k (by omega)
theorem BInv.drainC (h:BInv n cl lv S) (f:Nat):BInv n cl lv (S.drainC n ct f):=by
 induction f generalizing S with
 | zero=>exact h
 | succ f ih =>
  unfold Mn.drainC;split
  ·exact h
  ·rename_i m q hq;obtain ⟨fr,hf,hg⟩:=h.sv.q m (by rw [hq];exact cz);have h1:BInv n cl lv { S with q:=q }:=h.ofq (λx hx=>by rw [hq];exact aU _ hx) (by have:=h.sv.ql;rw [hq,aY] at this;omega);exact ih (h1.bringC ct m hg.d0 hg.dn)
theorem BInv.calmC (h:BInv n cl lv S) (r:Nat):BInv n (cl+r*n) lv (Mn.calmC n ct r S):=by
 induction r generalizing cl S with
 | zero=>rw [Nat.zero_mul];exact h
 | succ r ih =>
  have:=ih ((h.ticksC (ct:=ct) n (ah _)).drainC (ct:=ct) 3000);rw [Nat.succ_mul,show cl+(r*n+n)=cl+n+r*n by omega];exact this
end
def fU (S:Mn):Nat->Nat->Option Nat
 | 0,_=>none
 | m+1,i=>if (S.at i).up&&(S.at i).s.leads then some i else fU S m (i+1)
open Go.RowKit Go.ChangeMaps Go.WideMaps Go.Maps
def dt (n:Nat) (S:Mn):Prop:=∀i,i<n->(S.at i).up=true->(S.at i).s.done=false
section
variable {w w':World} {A A' Z Z':List Nat} {g n cl lv:Nat} {S:Mn} {es es':Cuts}
theorem BInv.upok (h:BInv n cl lv S) (hd:dt n S):mA n S:=λi hi hu =>
 ⟨(h.up i hi hu).1.wf,by unfold dQ;rw [hd i hi hu,(h.up i hi hu).1.off,(h.up i hi hu).2];simp⟩
theorem GoodM.light {fr:Nat} {m:Msg} (h:GoodM fr n m):gV m:=⟨by have:=h.nl;omega,by have:=h.bl;omega,λl hl=>by have:=h.bs l hl;omega⟩
theorem BInv.say {i d:Nat} {p:List Msg×Rp×Dk} (h:BInv n cl lv S) (hi:i<n) (ho:Out (S.at i).s d p):uY n p.1:=λm hm=>by
 have h9:=ho.ms m hm;rw [(h.sv.id i hi).1,(h.sv.id i hi).2] at h9;exact ⟨h9.light,by rw [h9.frm];omega,h9.d0,h9.dn⟩
theorem mj {S S':Mn} (h:S.nodes=S'.nodes) (m:Nat):∀(i:Nat) (lg:List (List UInt8)),fq S m i lg=fq S' m i lg:=by
 induction m with
 | zero=>intro i lg;rfl
 | succ m ih =>
  intro i lg;have e:S.at i=S'.at i:=by unfold Mn.at;rw [h]
  unfold fq;rw [e,ih]
theorem mO (S:Mn) (i:Nat) (p:List Msg×Rp×Dk):S.turnG n es i p=S.turnC n (dG es) i p:=by
 unfold Mn.turnG Mn.turnC Mn.tell Mn.sendC;rw [mj (S:=S.set i ⟨p.2.1,p.2.2,true⟩) (S':={ S.set i ⟨p.2.1,p.2.2,true⟩ with q:=p.1.foldl (fz (dG es)) (S.set i ⟨p.2.1,p.2.2,true⟩).q }) rfl];rfl
theorem zF (h:Gy w A Z g n S es) (hb:BInv n cl lv S) (hd:dt n S) (hcl:cl+1<=1000000) (i:Nat) (hi:i<n) (hd2:dt n (S.tickC n (dG es) i)) :
  Calls Tryz.prog 19 #[.pointer (some ⟨g,0,none⟩),.int .i64 (i:Int)] w λe w'=>e = .returned (.bool (S.at i).up)/\GyP w w' A Z g n (S.tickC n (dG es) i) es:=by
 have hb2:=hb.tickC (dG es) i hi;have hu2:=hb2.upok hd2;cases hu:(S.at i).up with
 | false =>
  have e1:S.tickC n (dG es) i=S:=by unfold Mn.tickC;rw [hu];rfl
  rw [e1];refine (rQ h (i:Int) (.inr ⟨i,hi,rfl,hu⟩)).mono ?_;rintro e w1 ⟨rfl,rfl⟩;exact ⟨rfl,h.gyp (Mv.refl _ _ _)⟩
 | true =>
  have e1:S.tickC n (dG es) i=S.turnC n (dG es) i (dX (S.at i).s (S.at i).k):=by unfold Mn.tickC;rw [hu];rfl
  rw [e1] at hu2 ⊢;rw [<-mO];exact zE h i hi hb.sv.ql (hb.upok hd) hu (by have:=(hb.sv.wf i hi hu).2;omega) (hb.say hi (rb (hb.up i hi hu).1.wf)) hu2
theorem CC (h:Gy w A Z g n S es) (hb:BInv n cl lv S) (hd:dt n S) (i:Nat) (hi:i<n) (ao:Option Addr) (bc:Nat) (rec:List UInt8) (him:ImmZ w A (.slice ao rec.length bc) rec) (hr:rec.length<=1000000) (hd2:dt n (S.submC n (dG es) i rec)) :
  Calls Tryz.prog 26 #[.pointer (some ⟨g,0,none⟩),.int .i64 (i:Int),.slice ao rec.length bc] w λe w'=>e = .returned (.bool ((S.at i).up&&((bw (S.at i).s (S.at i).k rec).2.1==0)))/\GyP w w' A Z g n (S.submC n (dG es) i rec) es:=by
 have hb2:=hb.submC (dG es) i hi rec;have hu2:=hb2.upok hd2;cases hu:(S.at i).up with
 | false =>
  have e1:S.submC n (dG es) i rec=S:=by unfold Mn.submC;rw [hu];rfl
  rw [e1];refine (nJ h (i:Int) ao _ bc (.inr ⟨i,hi,rfl,hu⟩)).mono ?_;rintro e w1 ⟨rfl,rfl⟩;exact ⟨rfl,h.gyp (Mv.refl _ _ _)⟩
 | true =>
  have e1:S.submC n (dG es) i rec=S.turnC n (dG es) i (fe (bw (S.at i).s (S.at i).k rec)):=by unfold Mn.submC;rw [hu];rfl
  rw [e1] at hu2 ⊢;rw [<-mO,mC];exact tT h i hi hb.sv.ql (hb.upok hd) hu ao _ bc rec him rfl hr (hb.say (d:=0) hi (p:=fe (bw (S.at i).s (S.at i).k rec)) (nu (hb.up i hi hu).1.wf rec)) hu2
end
section
variable {w w':World} {A A' X X':List Nat} {r d l:Nat} {s s':Rp} {k k':Dk}
def bU (m:Msg) (v u:Value):Array Value:=#[.int .i64 m.frm,.int .i64 m.dst,.int .i64 m.kind,v,u]
theorem dL (w:World) (a b:Nat):(w.drewN a).drewN b=w.drewN (a+b):=by
 simp
theorem ku (h:Nd w A X r d l s k) {w2:World} (hb:Below w.heap.size w w2) (m:Msg) (v u:Value) (hm:IsMsg w2 A m v u):MsP w (w2.alloc (.cells (bU m v u) 83)) A X r d l (.returned (.slice (some ⟨w2.heap.size,0,none⟩) 1 1)) ([m],s,k):=by
 have hbb:Below w2.heap.size w2 (w2.alloc (.cells (bU m v u) 83)):=(az _ _).alloc (ah _) _;have hb2:=hb.trans (hbb.mono hb.size);refine ⟨_,A,X,rfl,h.below hb2,⟨[⟨m,v,u⟩],rfl,?_,λx hx=>?_⟩,Mv.below hb2,λb hb3 hm3=>by have h9:=h.alt b hm3;have h8:=hb.size;simp [Value.ownBlock] at hb3;omega⟩
 ·refine ⟨by simp [dV,dB],.inr ⟨w2.heap.size,1,bU m v u,rfl,hb.size,aK _ _,ah _,by unfold maxLen;omega,rfl,?_⟩⟩;simp [dV,dB,bU]
 ·obtain rfl:=aj.1 hx;have ho:=Only.ofBelow hbb [];refine hm.step ho (λb hb=>by cases hb) (λb hb=>?_);rcases ap.1 hb with hb | hb
  ·exact .inl hb
  ·refine .inr ?_;have:b=w2.heap.size:=by simpa [Value.ownBlock] using hb
   omega
structure NumC (w:World) (v:Value) (N:List Int) (b off c:Nat):Prop where
 v:v = .slice (some ⟨b,off,none⟩) N.length c
 at_:∀i,i<N.length->w.cell? ⟨b,off+i,none⟩=some (.int .i64 (N.getD i 0))
theorem vW {v:Value} {N:List Int} (h:ImmI w A v N) (hn:0<N.length):∃b off c,NumC w v N b off c:=by
 obtain ⟨ao,c,rfl,⟨_,_,h3⟩,_⟩:=h;rcases h3 with h3 | ⟨b,off,h4,h5⟩
 ·omega
 ·subst h4;exact ⟨b,off,c,rfl,λi hi=>by rw [h5 i hi]⟩
theorem NumC.below {v:Value} {N:List Int} {b off c:Nat} (h:NumC w v N b off c) (hb:Below w.heap.size w w'):NumC w' v N b off c:=⟨h.v,λi hi=>cell_later hb (h.at_ i hi)⟩
set_option maxHeartbeats 4000000 in
theorem xg (h:Nd w A X r d l s k) (hw:Wf s k) (m:Msg) (v u:Value) (hm:IsMsg w A m v u) (hf:0<=m.frm) (hf2:m.frm<s.n):Calls Tryz.prog 71 #[.pointer (some ⟨r,0,none⟩),df m v u] w λe w'=>MsP w w' A X r d l e (dW s k m):=by
 have hbw:Below w.heap.size w (w.alloc (.cells (bU m v u) 83)):=(az _ _).alloc (ah _) _;have hbx:=aK w (.cells (bU m v u) 83);have h1:=h.below hbw;have HM0:Hid (Mv A A X X w (w.alloc (.cells (bU m v u) 83))):=ab (Mv.below hbw);have hM0:(w.alloc (.cells (bU m v u) 83)).cell? ⟨w.heap.size,0,none⟩=some (.int .i64 m.frm):=by rw [af hbx];rfl
 have hM3:(w.alloc (.cells (bU m v u) 83)).cell? ⟨w.heap.size,3,none⟩=some v:=by rw [af hbx];rfl
 have HPN:Hid (∀b∈X,b≠w.heap.size):=ab (λb hb e=>by have:=h.alt b (h.xA b hb);omega);have hPW:w.heap.size<(w.alloc (.cells (bU m v u) 83)).heap.size:=by simp
 have ho1:=hm.one;obtain ⟨ao,cN,ev,hIs,hcN,hcN2,_⟩:=id hm.n;by_cases h3:m.N.length=3
 ·obtain ⟨b,off,c,hc⟩:=vW hm.n (by omega);have hcW:=hc.below hbw;have hv:=hc.v;rw [h3] at hv;subst hv;have hN0:=hcW.at_ 0 (by omega);have hN1:=hcW.at_ 1 (by omega);have hN2:=hcW.at_ 2 (by omega);rw [fL] at hN0;obtain ⟨al,cl,hc8,hl1,hl2⟩:=h1.loglen;obtain ⟨vl,gv,gn,gm,gh,hcell⟩:=h1.cells;have hc6:(w.alloc (.cells (bU m (.slice (some ⟨b,off,none⟩) 3 c) u) 83)).cell? ⟨r,6,none⟩=some (.int .i64 s.term):=by rw [af hcell];rfl
  have hc7:(w.alloc (.cells (bU m (.slice (some ⟨b,off,none⟩) 3 c) u) 83)).cell? ⟨r,7,none⟩=some (.int .i64 s.choice):=by rw [af hcell];rfl
  have hlb:=hw.logb;have HLT:=ab (λW' (hb:Below (w.alloc (.cells (bU m (.slice (some ⟨b,off,none⟩) 3 c) u) 83)).heap.size (w.alloc (.cells (bU m (.slice (some ⟨b,off,none⟩) 3 c) u) 83)) W')=>eY (h1.below hb) s.log.length (ah _) (by omega));have HEN:=ab (λW' (hb:Below (w.alloc (.cells (bU m (.slice (some ⟨b,off,none⟩) 3 c) u) 83)).heap.size (w.alloc (.cells (bU m (.slice (some ⟨b,off,none⟩) 3 c) u) 83)) W')=>(lX (h1.below hb) hw s.term m.frm).mono (R':=λe w'=>e = .returned (.bool (be s k s.term m.frm).1)/\NdP (w.alloc (.cells (bU m (.slice (some ⟨b,off,none⟩) 3 c) u) 83)) w' A X r d l (be s k s.term m.frm).2.1 (be s k s.term m.frm).2.2) (by rintro e w' ⟨h1,h2⟩;exact ⟨h1,h2.trans (Mv.below hb)⟩));have HKM:Hid (∀w2 s2 k2,NdP (w.alloc (.cells (bU m (.slice (some ⟨b,off,none⟩) 3 c) u) 83)) w2 A X r d l s2 k2->w2.cell? ⟨w.heap.size,0,none⟩=some (.int .i64 m.frm)):=ab (λw2 s2 k2 hn=>by
   obtain ⟨A2,X2,h2,m2⟩:=hn;exact m2.mv.only.cell hM0 (λhm=>HPN.out _ hm rfl))
  have HE:Hid (dW s k m=(
   let own:=bJ s.log s.log.length
   let behind:=decide (own<m.N.getD 2 0)||(m.N.getD 2 0==own&&decide ((s.log.length:Int)<=m.N.getD 1 0))
   let yes:=(m.N.getD 0 0==s.term)&&behind&&(s.choice == -1||s.choice==m.frm)
   if yes then
    if s.choice == -1 then
     let p:=be s k s.term m.frm
     if p.1 then (let s1:={ p.2.1 with ticks:=0 };([da s1 m.frm 2 [s1.term,1]],s1,p.2.2)) else ([],p.2)
    else (let s1:={ s with ticks:=0 };([da s1 m.frm 2 [s1.term,1]],s1,k))
   else ([da s m.frm 2 [s.term,0]],s,k))):=ab (by unfold dW;rw [aA h3])
  (try simp only at HE)
  have HN1:=ab h1;clear h h1 hw hm hIs hcell hbw hbx ev hc hcW ho1;unfold df bU at *;generalize bJ s.log s.log.length=lt at *;generalize s.log.length=sl at *;generalize m.N.getD 0 0=n0 at *;generalize m.N.getD 1 0=n1 at *;generalize m.N.getD 2 0=n2 at *;go_enter Tryz.func71,Tryz.ntmps71
  go_wp2_with fail
  generalize w.alloc (.cells #[.int .i64 m.frm,.int .i64 m.dst,.int .i64 m.kind,.slice (some ⟨b,off,none⟩) 3 c,u] 83)=W at *;generalize w.heap.size=M at *;refine (HLT.out W (az _ _)).mono ?_;rintro e w1 ⟨rfl,rfl⟩;go_upto_region 4 with (fail)
  go_cut [6] (λv wx=>v = .bool (decide (lt<n2)||(n2==lt&&decide ((sl:Int)<=n1)))/\∃q,wx=W.drewN q)
  case first =>
   cases b1:decide (lt<n2) with
   | true =>
    go_quiet (fail)
    go_wp2_with fail
    go_meet
    exact ⟨by rw [b1];rfl,nq,rfl⟩
   | false =>
    cases b2:n2==lt with
    | false =>
     go_quiet (fail)
     go_wp2_with fail
     go_meet
     exact ⟨by rw [b1,b2];rfl,nq,rfl⟩
    | true =>
     go_quiet (fail)
     go_wp2_with fail
     go_meet
     exact ⟨by rw [b1,b2];rfl,nq,rfl⟩
  case rest =>
  obtain ⟨rfl,q4,rfl⟩:=hcut;generalize (decide (lt<n2)||(n2==lt&&decide ((sl:Int)<=n1)))=bh at *;go_upto_region 5 with (fail)
  go_cut [7] (λv wx=>v = .bool ((n0==s.term)&&bh&&(s.choice == -1||s.choice==m.frm))/\∃q,wx=W.drewN q)
  case first =>
   cases y1:n0==s.term with
   | false =>
    go_quiet (fail)
    go_wp2_with fail
    go_meet
    exact ⟨by rw [y1];rfl,_,dL W q4 nq⟩
   | true =>
    cases bh with
    | false =>
     go_quiet (fail)
     go_wp2_with fail
     go_meet
     exact ⟨by rw [y1];rfl,_,dL W q4 nq⟩
    | true =>
     cases c1:s.choice == -1 with
     | true =>
      go_quiet (fail)
      go_wp2_with fail
      go_meet
      exact ⟨by rw [y1,c1];rfl,_,dL W q4 nq⟩
     | false =>
      go_quiet (fail)
      go_wp2_with fail
      go_meet
      exact ⟨by rw [y1,c1];rfl,_,dL W q4 nq⟩
  case rest =>
  obtain ⟨rfl,q5,rfl⟩:=hcut;generalize ((n0==s.term)&&bh&&(s.choice == -1||s.choice==m.frm))=yes at *;have HBQ5:Hid (Below W.heap.size W (W.drewN q5)):=ab (ak W q5);have HSAYG:Hid (∀(W8:World) A8 X8 s8 k8,Nd W8 A8 X8 r d l s8 k8->∀W9,Below W8.heap.size W8 W9->∀dst kind N ao n c,Calls Tryz.prog 67 #[.pointer (some ⟨r,0,none⟩),.int .i64 dst,.int .i64 kind,.slice ao n c] W9 λe w2=>e = .returned (df (da s8 dst kind N) (.slice ao n c) (.slice none 0 0))/\Below W9.heap.size W9 w2):=ab (λW8 A8 X8 s8 k8 h W9 hb dst kind N ao n c=>jP (h.below hb) dst kind N ao n c);clear HLT hN0 hN1 hN2 hM3 hc8;cases yes with
  | false =>
   rw [aw (by simp)] at HE;go_upto_region 6 with (fail)
   go_quiet (fail)
   go_upto_region 9 with (fail)
   obtain ⟨st8,hst8⟩:∃st8,st8=s.term:=⟨_,rfl⟩
   obtain ⟨s8,hs8⟩:∃s8,s8=s:=⟨_,rfl⟩
   obtain ⟨k8,hk8⟩:∃k8,k8=k:=⟨_,rfl⟩
   obtain ⟨A8,hA8⟩:∃A8,A8=A:=⟨_,rfl⟩
   obtain ⟨X8,hX8⟩:∃X8,X8=X:=⟨_,rfl⟩
   have h8:Nd (W.drewN (q5+nq)).drew A8 X8 r d l s8 k8:=by rw [hs8,hk8,hA8,hX8];exact (HN1.out.below (ak W (q5+nq))).below (ak _ 1)
   have M8:Hid (Mv A A8 X X8 w (W.drewN (q5+nq)).drew):=ab (by rw [hA8,hX8];exact (HM0.out.trans (Mv.below (ak W (q5+nq)))).trans (Mv.below (ak _ 1)));have hMV:(W.drewN (q5+nq)).drew.cell? ⟨M,0,none⟩=some (.int .i64 m.frm):=hM0;have hr6:(W.drewN (q5+nq)).drew.cell? ⟨r,6,none⟩=some (.int .i64 st8):=by rw [hst8];exact hc6
   have HE:Hid (dW s k m=([da s8 m.frm 2 [st8,0]],s8,k8)):=ab (by rw [hs8,hk8,hst8];exact HE.out);clear hc6 hc7 hM0 hst8 hs8 hk8 hA8 hX8;generalize W.drewN (q5+nq)=W8 at *;have HK8:Hid (∀W',Below W8.drew.heap.size W8.drew W'->W'.cell? ⟨M,0,none⟩=some (.int .i64 m.frm)/\W'.cell? ⟨r,6,none⟩=some (.int .i64 st8)):=ab (λW' hb=>⟨cell_later hb hMV,cell_later hb hr6⟩);have HSAY:=ab (HSAYG.out _ _ _ _ _ h8);have HA8:=ab h8.alt;have HBV:Hid (∀o,Below W8.drew.heap.size W8.drew (W8.drew.alloc o)):=ab (λo=>(az _ _).alloc (ah _) o);have HF8:Hid (∀V10 vv N,Below W8.drew.heap.size W8.drew V10->ImmI V10 A8 vv N->MsP w (V10.alloc (.cells (bU (da s8 m.frm 2 N) vv (.slice none 0 0)) 83)) A X r d l (.returned (.slice (some ⟨V10.heap.size,0,none⟩) 1 1)) ([da s8 m.frm 2 N],s8,k8)):=ab (λV10 vv N hb hi=>MsP.trans M8.out (ku h8 hb (da s8 m.frm 2 N) vv (.slice none 0 0) ⟨hi,.inl ⟨rfl,rfl⟩⟩));unfold bU at HF8;refine wp_region_held_drew (S:=λw'=>w'.cell? ⟨M,0,none⟩=some (.int .i64 m.frm)/\w'.cell? ⟨r,6,none⟩=some (.int .i64 st8)) (by kernel_rfl) (HK8.out _ (az _ _)) (λam=>?_);refine aB 0 ?_;refine aB 1 ?_;refine aB 2 ?_;refine aB 3 ?_;refine aB 4 ?_;refine aB 5 ?_;refine aB 6 ?_;generalize W8.drew=V8 at *;refine cC 7 λK hK=>?_;go_simp
   refine hK.out _ _ (HK8.out _ (HBV.out (.cells #[.int .i64 st8,.int .i64 0] 2))) (λam=>?_);clear hK K;refine bH ?_;have HI8:Hid (ImmI (V8.alloc (.cells #[.int .i64 st8,.int .i64 0] 2)) A8 (.slice (some ⟨V8.heap.size,0,none⟩) 2 2) [st8,0]):=ab (ImmI.fresh [st8,0] _ rfl 2 2 rfl (by omega) HA8.out);have HB8:=ab (HBV.out (.cells #[.int .i64 st8,.int .i64 0] 2));generalize V8.alloc (.cells #[.int .i64 st8,.int .i64 0] 2)=V9 at *;refine cC 8 λK hK=>?_;go_simp
   refine (HSAY.out _ HB8.out _ _ [st8,0] _ _ _).mono ?_;rintro e V10 ⟨rfl,hb10⟩;have HB10:=ab (HB8.out.trans (hb10.mono HB8.out.size));have HI10:=ab (HI8.out.below hb10);clear hb10;go_wp2_with fail
   refine hK.out _ _ (HK8.out _ HB10.out) (λam=>?_);clear hK K;refine bH ?_;refine cC 9 λK hK=>?_;unfold df;go_simp
   refine hK.out _ _ (HK8.out _ (HB10.out.alloc HB10.out.size _)) (λam=>?_);clear hK K;refine bH ?_;refine aB 10 ?_;refine fI ?_;clear am;go_wp2_with fail
   go_ret
   rw [HE.out];exact HF8.out _ _ _ HB10.out HI10.out
  | true =>
   rw [aA rfl] at HE;go_upto_region 6 with (fail)
   have HQ6:Hid (∀n,(W.drewN q5).drewN n=W.drewN (q5+n)):=ab (λn=>dL W q5 n);cases hfail:(s.choice == -1) && !(be s k s.term m.frm).1 with
   | true =>
    have hc1:(s.choice == -1)=true:=by revert hfail;cases (s.choice == -1)<;>simp
    have hok:(be s k s.term m.frm).1=false:=by revert hfail;rw [hc1];simp
    rw [aA hc1,aw (by rw [hok];simp)] at HE;have HEN2:=ab (HEN.out (W.drewN (q5+1)) (ak W (q5+1)));rw [hok] at HEN2;have hM6:(W.drewN q5).drew.cell? ⟨M,0,none⟩=some (.int .i64 m.frm):=hM0;have HKM:=ab (λw2=>HKM.out w2 (be s k s.term m.frm).2.1 (be s k s.term m.frm).2.2);generalize (be s k s.term m.frm).2=p2 at *;refine wp_region_held_drew (S:=λw'=>w'.cell? ⟨M,0,none⟩=some (.int .i64 m.frm)) (by kernel_rfl) hM6 (λam=>?_);refine aB 0 ?_;refine aB 1 ?_;refine aB 2 ?_;refine aB 3 ?_;refine aB 4 ?_;refine cC 5 λK hK=>?_;go_simp
    refine hK.out _ _ am (λam=>?_);clear hK K;refine bH ?_;refine aB 6 ?_;refine aB 7 ?_;refine aB 8 ?_;refine aB 9 ?_;refine aB 10 ?_;refine aB 11 ?_;refine aB 12 ?_;refine aB 14 ?_;refine aB 15 ?_;refine cC 13 λK hK=>?_;go_simp
    refine hK.out _ _ am (λam=>?_);clear hK K;refine bH ?_;refine cC 16 λK hK=>?_;go_simp
    refine HEN2.out.mono ?_;rintro e w2 ⟨rfl,hn2⟩;have HN2:=ab hn2;have hk2:=HKM.out w2 hn2;clear hn2;go_wp2_with fail
    refine hK.out _ _ hk2 (λam=>?_);clear hK K;refine bH ?_;refine aB 17 ?_;refine aB 18 ?_;refine fI ?_;clear am;go_wp2_with fail
    go_ret
    rw [HE.out];exact MsP.none (NdP.trans HM0.out HN2.out)
   | false =>
    go_cut [91] (λv wx=>v = .bool false/\wx.cell? ⟨M,0,none⟩=some (.int .i64 m.frm)/\∃s8 k8,NdP W wx A X r d l s8 k8/\dW s k m=([da { s8 with ticks:=0 } m.frm 2 [s8.term,1]],{ s8 with ticks:=0 },k8))
    case first =>
     cases c1:s.choice == -1 with
     | true =>
      have hok:(be s k s.term m.frm).1=true:=by revert hfail;rw [c1];simp
      rw [aA c1,aA hok] at HE;have HEN2:=ab (HEN.out (W.drewN (q5+1)) (ak W (q5+1)));rw [hok] at HEN2;have hM6:(W.drewN q5).drew.cell? ⟨M,0,none⟩=some (.int .i64 m.frm):=hM0;have HKM:=ab (λw2=>HKM.out w2 (be s k s.term m.frm).2.1 (be s k s.term m.frm).2.2);generalize (be s k s.term m.frm).2=p2 at *;refine wp_region_held_drew (S:=λw'=>w'.cell? ⟨M,0,none⟩=some (.int .i64 m.frm)) (by kernel_rfl) hM6 (λam=>?_);refine aB 0 ?_;refine aB 1 ?_;refine aB 2 ?_;refine aB 3 ?_;refine aB 4 ?_;refine cC 5 λK hK=>?_;go_simp
      refine hK.out _ _ am (λam=>?_);clear hK K;refine bH ?_;refine aB 6 ?_;refine aB 7 ?_;refine aB 8 ?_;refine aB 9 ?_;refine aB 10 ?_;refine aB 11 ?_;refine aB 12 ?_;refine aB 14 ?_;refine aB 15 ?_;refine cC 13 λK hK=>?_;go_simp
      refine hK.out _ _ am (λam=>?_);clear hK K;refine bH ?_;refine cC 16 λK hK=>?_;go_simp
      refine HEN2.out.mono ?_;rintro e w2 ⟨rfl,hn2⟩;have HN2:=ab hn2;have hk2:=HKM.out w2 hn2;clear hn2;go_wp2_with fail
      refine hK.out _ _ hk2 (λam=>?_);clear hK K;refine bH ?_;refine aB 17 ?_;refine aB 18 ?_;refine fI ?_;clear am;go_wp2_with fail
      go_meet
      exact ⟨rfl,hk2,_,_,HN2.out,HE.out⟩
     | false =>
      rw [aw (by rw [c1];simp)] at HE;go_quiet (fail)
      go_wp2_with fail
      go_meet
      exact ⟨rfl,hM0,s,k,((HN1.out.below (ak W q5)).below (ak _ nq)).ndp ((Mv.below (ak W q5)).trans (Mv.below (ak _ nq))),HE.out⟩
    case rest =>
    obtain ⟨rfl,hM7,s7,k7,hn7,he7⟩:=hcut;rename World=>W7;obtain ⟨A7,X7,h7,m7⟩:=hn7;have H7:=ab h7;have M7:=ab (HM0.out.trans m7);have HPX7:Hid (M∉X7):=ab (λhm=>by
     rcases m7.mv.gr M hm with h9 | h9
     ·exact HPN.out M h9 rfl
     ·omega)
    obtain ⟨vl,gv,gn,gm,gh,hcell⟩:=h7.cells;have hz15:=aM hcell 15;have hc15:W7.cell? ⟨r,15,none⟩=some (.int .i64 (s7.ticks:Int)):=by rw [af hcell];rfl
    have hrM:r≠M:=λe=>HPX7.out (e ▸ h7.rX);have HT:Hid (NdP W7 (W7.setCell ⟨r,15,none⟩ (.int .i64 0)) A7 X7 r d l { s7 with ticks:=0 } k7):=ab (by
     refine Nd.scal h7 ((Only.refl _ _).setCell (by simp) _) ?_ rfl rfl rfl rfl rfl rfl;intro vl gv gn gm gh hc;rw [aR hc];rfl)
    have HE:Hid (dW s k m=([da { s7 with ticks:=0 } m.frm 2 [s7.term,1]],{ s7 with ticks:=0 },k7)):=ab he7;have hM8:(W7.setCell ⟨r,15,none⟩ (.int .i64 0)).cell? ⟨M,0,none⟩=some (.int .i64 m.frm):=((Only.refl [r] _).setCell (p:=⟨r,15,none⟩) (by simp) _).cell hM7 (by simpa using hrM.symm);clear h7 m7 hcell he7 hc6 hc7 hM0 hfail HEN;go_upto_region 11 with (fail)
    generalize W7.setCell ⟨r,15,none⟩ (.int .i64 0)=W8 at *;obtain ⟨A8,X8,h8,m8⟩:=HT.out;have M8:=ab ((M7.out.trans m8).trans (Mv.below (A:=A8) (X:=X8) (ak W8 1)));have h8:=h8.below (ak W8 1);change Nd W8.drew A8 X8 r d l { s7 with ticks:=0 } k7 at h8;change Hid (Mv A A8 X X8 w W8.drew) at M8;have hMV:W8.drew.cell? ⟨M,0,none⟩=some (.int .i64 m.frm):=hM8;generalize hs8:({ s7 with ticks:=0 }:Rp)=s8 at *;have hst:s7.term=s8.term:=by rw [<-hs8]
    obtain ⟨st8,hst8⟩:∃st8,st8=s8.term:=⟨_,rfl⟩
    have hr6:W8.drew.cell? ⟨r,6,none⟩=some (.int .i64 st8):=by
     obtain ⟨vl,gv,gn,gm,gh,hcell⟩:=h8.cells;rw [af hcell,hst8];rfl
    rw [hst,<-hst8] at HE;clear hs8 hst;obtain ⟨k8,hk8⟩:∃k8,k8=k7:=⟨_,rfl⟩
    rw [<-hk8] at HE h8;clear hst8 hk8 m8 hM7 hM8 hz15 hc15 HT;have HK8:Hid (∀W',Below W8.drew.heap.size W8.drew W'->W'.cell? ⟨M,0,none⟩=some (.int .i64 m.frm)/\W'.cell? ⟨r,6,none⟩=some (.int .i64 st8)):=ab (λW' hb=>⟨cell_later hb hMV,cell_later hb hr6⟩);have HSAY:=ab (HSAYG.out _ _ _ _ _ h8);have HA8:=ab h8.alt;have HBV:Hid (∀o,Below W8.drew.heap.size W8.drew (W8.drew.alloc o)):=ab (λo=>(az _ _).alloc (ah _) o);have HF8:Hid (∀V10 vv N,Below W8.drew.heap.size W8.drew V10->ImmI V10 A8 vv N->MsP w (V10.alloc (.cells (bU (da s8 m.frm 2 N) vv (.slice none 0 0)) 83)) A X r d l (.returned (.slice (some ⟨V10.heap.size,0,none⟩) 1 1)) ([da s8 m.frm 2 N],s8,k8)):=ab (λV10 vv N hb hi=>MsP.trans M8.out (ku h8 hb (da s8 m.frm 2 N) vv (.slice none 0 0) ⟨hi,.inl ⟨rfl,rfl⟩⟩));unfold bU at HF8;refine wp_region_held_drew (S:=λw'=>w'.cell? ⟨M,0,none⟩=some (.int .i64 m.frm)/\w'.cell? ⟨r,6,none⟩=some (.int .i64 st8)) (by kernel_rfl) (HK8.out _ (az _ _)) (λam=>?_);refine aB 0 ?_;refine aB 1 ?_;refine aB 2 ?_;refine aB 3 ?_;refine aB 4 ?_;refine aB 5 ?_;refine aB 6 ?_;generalize W8.drew=V8 at *;refine cC 7 λK hK=>?_;go_simp
    refine hK.out _ _ (HK8.out _ (HBV.out (.cells #[.int .i64 st8,.int .i64 1] 2))) (λam=>?_);clear hK K;refine bH ?_;have HI8:Hid (ImmI (V8.alloc (.cells #[.int .i64 st8,.int .i64 1] 2)) A8 (.slice (some ⟨V8.heap.size,0,none⟩) 2 2) [st8,1]):=ab (ImmI.fresh [st8,1] _ rfl 2 2 rfl (by omega) HA8.out);have HB8:=ab (HBV.out (.cells #[.int .i64 st8,.int .i64 1] 2));generalize V8.alloc (.cells #[.int .i64 st8,.int .i64 1] 2)=V9 at *;refine cC 8 λK hK=>?_;go_simp
    refine (HSAY.out _ HB8.out _ _ [st8,1] _ _ _).mono ?_;rintro e V10 ⟨rfl,hb10⟩;have HB10:=ab (HB8.out.trans (hb10.mono HB8.out.size));have HI10:=ab (HI8.out.below hb10);clear hb10;go_wp2_with fail
    refine hK.out _ _ (HK8.out _ HB10.out) (λam=>?_);clear hK K;refine bH ?_;refine cC 9 λK hK=>?_;unfold df;go_simp
    refine hK.out _ _ (HK8.out _ (HB10.out.alloc HB10.out.size _)) (λam=>?_);clear hK K;refine bH ?_;refine aB 10 ?_;refine fI ?_;clear am;go_wp2_with fail
    go_ret
    rw [HE.out];exact HF8.out _ _ _ HB10.out HI10.out
 ·have HE:Hid (dW s k m=([],s,k)):=ab (by unfold dW;rw [aw h3]);subst ev;have g1:((m.N.length:Int) != 3)=true:=by rw [qz];omega
  have HF:Hid (NdP w (w.alloc (.cells (bU m (.slice ao m.N.length cN) u) 83)) A X r d l s k):=ab (h1.ndp HM0.out);clear h h1 hw hm hIs;unfold df bU at *;go_enter Tryz.func71,Tryz.ntmps71
  go_wp2_with fail
  go_ret
  rw [HE.out];exact MsP.none HF.out
end
section
variable {w w':World} {A A' X X':List Nat} {r d l:Nat} {s s':Rp} {k k':Dk}
set_option maxHeartbeats 4000000 in
theorem vh (h:Nd w A X r d l s k) (hw:Wf s k) (m:Msg) (v u:Value) (hm:IsMsg w A m v u) (fr:Nat) (hfr:m.frm=(fr:Int)) (hf2:fr<s.n) (hlen:2<=m.N.length):Calls Tryz.prog 72 #[.pointer (some ⟨r,0,none⟩),df m v u] w λe w'=>MsP w w' A X r d l e (eF s k m):=by
 have hbw:Below w.heap.size w (w.alloc (.cells (bU m v u) 83)):=(az _ _).alloc (ah _) _;have hbx:=aK w (.cells (bU m v u) 83);have h1:=h.below hbw;have HM0:Hid (Mv A A X X w (w.alloc (.cells (bU m v u) 83))):=ab (Mv.below hbw);have hM0:(w.alloc (.cells (bU m v u) 83)).cell? ⟨w.heap.size,0,none⟩=some (.int .i64 m.frm):=by rw [af hbx];rfl
 have hM3:(w.alloc (.cells (bU m v u) 83)).cell? ⟨w.heap.size,3,none⟩=some v:=by rw [af hbx];rfl
 have HPN:Hid (∀b∈X,b≠w.heap.size):=ab (λb hb e=>by have:=h.alt b (h.xA b hb);omega);obtain ⟨b,off,c,hc⟩:=vW hm.n (by omega);have hcW:=hc.below hbw;have hv:=hc.v;subst hv;have hN0:=hcW.at_ 0 (by omega);have hN1:=hcW.at_ 1 (by omega);rw [fL] at hN0;obtain ⟨vl,gv0,gn,gm,gh,hcell⟩:=h1.cells;have hc6:(w.alloc (.cells (bU m (.slice (some ⟨b,off,none⟩) m.N.length c) u) 83)).cell? ⟨r,6,none⟩=some (.int .i64 s.term):=by rw [af hcell];rfl
 have hc7:(w.alloc (.cells (bU m (.slice (some ⟨b,off,none⟩) m.N.length c) u) 83)).cell? ⟨r,7,none⟩=some (.int .i64 s.choice):=by rw [af hcell];rfl
 have hc0:(w.alloc (.cells (bU m (.slice (some ⟨b,off,none⟩) m.N.length c) u) 83)).cell? ⟨r,0,none⟩=some (.int .i64 (s.own:Int)):=by rw [af hcell];rfl
 have hc11:(w.alloc (.cells (bU m (.slice (some ⟨b,off,none⟩) m.N.length c) u) 83)).cell? ⟨r,11,none⟩=some (.bool s.leads):=by rw [af hcell];rfl
 have HE:Hid (eF s k m=if s.leads || !(m.N.getD 0 0==s.term) || !(s.choice==(s.own:Int)) || !(m.N.getD 1 0==1) then ([],s,k) else
  if ft { s with votes:=s.votes.set fr true } then fT { s with votes:=s.votes.set fr true } k else ([],{ s with votes:=s.votes.set fr true },k)):=ab (by
   unfold eF;rw [hfr,ed])
 have HN1:=ab h1;have HW:=ab hw;have hl0:(0:Int)<(m.N.length:Int):=by omega
 have hl1:(1:Int)<(m.N.length:Int):=by omega
 rw [hfr] at hM0;clear h h1 hw hm hcell hbw hbx hc hcW;unfold df bU at *;rw [hfr] at *;generalize m.N.getD 0 0=n0 at *;generalize m.N.getD 1 0=n1 at *;generalize m.N.length=nl at *;go_enter Tryz.func72,Tryz.ntmps72
 go_upto_region 1 with (fail)
 generalize w.alloc (.cells #[.int .i64 (fr:Int),.int .i64 m.dst,.int .i64 m.kind,.slice (some ⟨b,off,none⟩) nl c,u] 83)=W at *;generalize w.heap.size=M at *;go_cut [37] (λv wx=>v = .bool (s.leads || !(n0==s.term) || !(s.choice==(s.own:Int)) || !(n1==1))/\∃q,wx=W.drewN q)
 case first =>
  cases b1:s.leads with
  | true =>
   rw [b1] at hc11;go_quiet (fail)
   go_wp2_with fail
   go_meet
   exact ⟨by rw [b1];rfl,nq,rfl⟩
  | false =>
   rw [b1] at hc11;cases b2:n0==s.term with
   | false =>
    have g2:(n0 != s.term)=true:=by rw [bne,b2];rfl
    go_quiet (fail)
    go_wp2_with fail
    go_meet
    exact ⟨by rw [b1,b2];rfl,nq,rfl⟩
   | true =>
    have g2:(n0 != s.term)=false:=by rw [bne,b2];rfl
    cases b3:s.choice==(s.own:Int) with
    | false =>
     have g3:(s.choice != (s.own:Int))=true:=by rw [bne,b3];rfl
     go_quiet (fail)
     go_wp2_with fail
     go_meet
     exact ⟨by rw [b1,b2,b3];rfl,nq,rfl⟩
    | true =>
     have g3:(s.choice != (s.own:Int))=false:=by rw [bne,b3];rfl
     go_quiet (fail)
     go_wp2_with fail
     go_meet
     exact ⟨by rw [b1,b2,b3];rfl,nq,rfl⟩
 case rest =>
 obtain ⟨rfl,q1,rfl⟩:=hcut;generalize (s.leads || !(n0==s.term) || !(s.choice==(s.own:Int)) || !(n1==1))=no at *;cases no with
 | true =>
  rw [aA rfl] at HE;go_wp2_with fail
  go_ret
  rw [HE.out];exact MsP.none (NdP.trans (HM0.out.trans (Mv.below (ak W q1))) ((HN1.out.below (ak W q1)).ndp (Mv.refl _ _ _)))
 | false =>
  rw [aw (by simp)] at HE;go_upto_region 3 with (fail)
  have h3:=(HN1.out.below (ak W q1)).below (ak _ 1);change Nd (W.drewN q1).drew A X r d l s k at h3;have M3:Hid (Mv A A X X w (W.drewN q1).drew):=ab ((HM0.out.trans (Mv.below (ak W q1))).trans (Mv.below (ak _ 1)));have hkM:(W.drewN q1).drew.cell? ⟨M,0,none⟩=some (.int .i64 (fr:Int)):=hM0;clear hM0 hM3 hN0 hN1 hc0 hc6 hc7 hc11;obtain ⟨D,L,R,vl,gv,gn,gm,gh,h4,hX4⟩:=h3;have hk12:(W.drewN q1).drew.cell? ⟨r,12,none⟩=some (.slice (some ⟨gv,0,none⟩) s.n s.n):=by rw [af h4.cell];rfl
  have hkv:(W.drewN q1).drew.cell? ⟨gv,fr,none⟩=some (.bool (s.votes.getD fr false)):=by rw [af h4.votes];exact lZ _ _ (by rw [HW.out.vl];exact hf2)
  have hzv:=aM h4.votes fr;have hf3:(fr:Int)<(s.n:Int):=by omega
  have hMgv:M≠gv:=λe=>HPN.out gv ((hX4 gv).2 (.inr (.inr h4.vR))) e.symm;have hrgv:r≠gv:=bZ h4.cell h4.votes (by decide);have HK3:Hid (∀v,((W.drewN q1).drew.setCell ⟨gv,fr,none⟩ v).cell? ⟨r,12,none⟩=some (.slice (some ⟨gv,0,none⟩) s.n s.n)/\((W.drewN q1).drew.setCell ⟨gv,fr,none⟩ v).cell? ⟨M,0,none⟩=some (.int .i64 (fr:Int))):=ab (λv=>by
   have ho:Only [gv] (W.drewN q1).drew ((W.drewN q1).drew.setCell ⟨gv,fr,none⟩ v):=(Only.refl _ _).setCell (by simp) _;exact ⟨ho.cell hk12 (by simpa using hrgv),ho.cell hkM (by simpa using hMgv)⟩)
  have H4:Hid (NdP (W.drewN q1).drew ((W.drewN q1).drew.setCell ⟨gv,fr,none⟩ (.bool true)) A X r d l { s with votes:=s.votes.set fr true } k):=ab ((h4.set_votes fr true).ndpR hX4 (S:=[gv]) ((Only.refl _ _).setCell (by simp) _) (λb hb=>by rw [aj.1 hb];exact h4.vR));have HWV:Hid (Wf { s with votes:=s.votes.set fr true } k):=ab (eE HW.out s.lives s.ticks s.clock (s.votes.set fr true) HW.out.tick (by rw [dU];exact HW.out.vl) (ah _));clear h4 hX4 hMgv hrgv;generalize s.votes.getD fr false=vo at *;refine wp_region_held_drew (S:=λw'=>w'.cell? ⟨r,12,none⟩=some (.slice (some ⟨gv,0,none⟩) s.n s.n)/\w'.cell? ⟨M,0,none⟩=some (.int .i64 (fr:Int))) (by kernel_rfl) ⟨hk12,hkM⟩ (λam=>?_);refine aB 0 ?_;refine aB 1 ?_;refine aB 2 ?_;refine aB 3 ?_;refine aB 4 ?_;refine aB 5 ?_;refine aB 6 ?_;generalize (W.drewN q1).drew=V3 at *;refine cC 7 λK hK=>?_;go_simp
  refine hK.out _ _ (HK3.out _) (λam=>?_);clear hK K;refine bH ?_;refine fI ?_;clear am;generalize V3.setCell ⟨gv,fr,none⟩ (.bool true)=W4 at *;go_wp2_with fail
  obtain ⟨A5,X5,h5,m5⟩:=H4.out;have H5:=ab h5;have M5:=ab (M3.out.trans m5);have HCH:=ab (n8 h5 HWV.out.n5 HWV.out.vl);clear h5 m5 hk12 hkM hkv hzv HK3 H4;generalize ({ s with votes:=s.votes.set fr true }:Rp)=s5 at *;refine HCH.out.mono ?_;rintro e w9 ⟨rfl,rfl⟩;cases hch:ft s5 with
  | true =>
   rw [hch,aA rfl] at HE;go_wp2_with fail
   refine (rE H5.out HWV.out).mono ?_;rintro e w9 ⟨v9,A9,X9,rfl,h9,ho9,m9⟩;have HF:=ab (MsP.trans M5.out ⟨v9,A9,X9,rfl,h9,ho9,m9⟩);clear h9 ho9 m9;go_wp2_with fail
   go_ret
   rw [HE.out];exact HF.out
  | false =>
   rw [hch,aw (by simp)] at HE;go_wp2_with fail
   go_ret
   rw [HE.out];exact MsP.none (H5.out.ndp M5.out)
end
end Go.Proofs.YtnhefallmioefaaGreat
