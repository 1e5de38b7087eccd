/-
  What the proof of the law leans on: contracts of the program's functions, one behind another. No condition.
-/
import Derived.Test.YtnhefallmioefaaGreatV0
import Derived.Test.YtnhefallmioefaaGreatV14
import Derived.Test.YtnhefallmioefaaGreatV3
import Derived.Test.YtnhefallmioefaaGreatV1
set_option linter.unusedVariables false
set_option linter.unusedSimpArgs false
namespace Go.Proofs.YtnhefallmioefaaGreat
open Go.RowKit Go.ChangeMaps Go.WideMaps Go.Maps
set_option maxRecDepth 20000
theorem C2 {L:List Value} {a b c d e:Value} (h0:L[0]? = some a) (h1:L[1]? = some b) (h2:L[2]? = some c) (h3:L[3]? = some d) (h4:L[4]? = some e):L.take 5=[a,b,c,d,e]:=by
 rcases L with _ | ⟨x0,_ | ⟨x1,_ | ⟨x2,_ | ⟨x3,_ | ⟨x4,L⟩⟩⟩⟩⟩<;>simp_all
section
variable {w w':World} {A Y:List Nat} {nb mb n:Nat} {qv v:Value} {q ms:List Msg} {es:Cuts}
theorem IsQ.rows (h:IsQ w A Y v ms) (hz:qy v) (hl:0<ms.length):∃g cap ps,v = .slice (some ⟨g,0,none⟩) ms.length cap/\g∈Y/\ps.map MsV.m=ms/\(∀x∈ps,IsMsg w A x.m x.v x.u)/\RowL w g ms.length cap (dV ps)/\∃cur,w.heap[g]? = some (.cells cur 83 (0,0)):=by
 rcases h with ⟨_,rfl⟩ | ⟨g,off,c,cur,rfl,h2,h3,h4,h5,h6,h7⟩
 ·simp at hl
 ·have ho:off=0:=by have h0:off*5=0:=hz _ _ _ rfl;omega
  subst ho;have key:∀k,k<=ms.length->∃ps:List MsV,ps.map MsV.m=ms.take k/\(∀x∈ps,IsMsg w A x.m x.v x.u)/\dV ps=cur.toList.take (k*5):=by
   intro k;induction k with
   | zero=>exact λ_=>⟨[],by simp,λx hx=>by simp at hx,by simp [dV]⟩
   | succ k ih =>
    intro hk;obtain ⟨ps,e1,e2,e3⟩:=ih (by omega);obtain ⟨v,u,g0,g1,g2,g3,g4,g5⟩:=h7 k (by omega);rw [cy] at g0 g1 g2 g3 g4;refine ⟨ps++[⟨ms[k],v,u⟩],?_,λx hx=>?_,?_⟩
    ·rw [bS,e1,dl (by omega)];rfl
    ·rcases ap.1 hx with hx | hx
     ·exact e2 x hx
     ·rw [aj.1 hx];exact g5
    ·rw [gw,e3,Nat.add_mul,Nat.one_mul,List.take_add];congr 1;exact (C2 (by simpa using g0) (by simpa using g1) (by simpa using g2) (by simpa using g3) (by simpa using g4)).symm
  obtain ⟨ps,e1,e2,e3⟩:=key ms.length (ah _);rw [cK] at e1;have hlen:ps.length=ms.length:=by rw [<-e1,aP]
  exact ⟨g,c,ps,by simp,h4,e1,e2,⟨by rw [jr,hlen],cur,h5,h2,h3,by simpa using h6,e3.symm⟩,cur,h5⟩
theorem IsQ.of_rows {g cap:Nat} {ps:List MsV} (h:RowL w g ms.length cap (dV ps)) (hg:g∈Y) (hp:ps.map MsV.m=ms) (hm:∀x∈ps,IsMsg w A x.m x.v x.u):IsQ w A Y (.slice (some ⟨g,0,none⟩) ms.length cap) ms:=by
 obtain ⟨h1,cur,hh,hn,hm2,hs,ht⟩:=h;subst hp;rw [aP] at hn ht;refine .inr ⟨g,0,cap,cur,rfl,by simpa using hn,hm2,hg,hh,by simpa using hs,λi hi=>?_⟩;have hi2:i<ps.length:=by simpa using hi
 have hc:∀j,j<5->cur[i*5+j]? = (dB ps[i])[j]? := by
  intro j hj;have:=uo ps i j hi2 hj;rw [<-ht,List.getElem?_take_of_lt (by omega)] at this;rw [aF,bK hi2] at this;simpa using this
 rw [cy];refine ⟨ps[i].v,ps[i].u,?_,?_,?_,?_,?_,?_⟩
 ·have:=hc 0 (by omega);simpa [dB] using this
 ·have:=hc 1 (by omega);simpa [dB] using this
 ·have:=hc 2 (by omega);simpa [dB] using this
 ·have:=hc 3 (by omega);simpa [dB] using this
 ·have:=hc 4 (by omega);simpa [dB] using this
 ·have:=hm _ (bO hi2);simpa using this
structure NtF (w w':World) (A Y:List Nat) (nb mb n:Nat) (q:List Msg) (es:Cuts):Prop where
 ex:∃qv,IsNt w' A Y nb mb n qv q es/\∃T,Only T w w'/\∀b∈T,b∈Y/\(b=nb\/∃cur,w.heap[b]? = some (.cells cur 83 (0,0)))
theorem IsNt.setqF {v':Value} {q':List Msg} {T:List Nat} (h:IsNt w A Y nb mb n qv q es) (hq:IsQ w' A Y v' q') (hoT:Only T w w') (hT:∀b∈T,b∈Y/\∃cur,w.heap[b]? = some (.cells cur 83 (0,0))) (hz:qy v'):NtF w (w'.setCell ⟨nb,2,none⟩ v') A Y nb mb n q' es:=by
 have hne:nb∉T:=λhm=>by
  obtain ⟨_,cur,hc⟩:=hT nb hm;rw [h.net] at hc;simp [de] at hc
 have hmT:mb∉T:=λhm=>by
  obtain ⟨_,cur,hc⟩:=hT mb hm;obtain ⟨arr,c,h1,_⟩:=h.cut.map;rw [h1] at hc;simp at hc
 have hc1:=hoT.keeps h.net hne;have hon:Only [nb] w' (w'.setCell ⟨nb,2,none⟩ v'):=(Only.refl _ _).setCell (by simp) _;have hc2:(w'.setCell ⟨nb,2,none⟩ v').heap[nb]? = some (de (n:Int) 2000 v' mb):=by
  unfold de at hc1;rw [aR hc1];rfl
 have hmm:mb≠nb:=λe=>by
  obtain ⟨arr,c,h1,_⟩:=h.cut.map;rw [e,h.net] at h1;simp [de] at h1
 refine ⟨v',⟨hc2,(h.cut.only hoT hmT).only hon (by simpa using hmm),hq.keep hon (λb hb=>by rw [aj.1 hb];exact h.yA _ h.nY) (λb hb cur hcur hm=>?_) (Ext.refl _ _) (λb hb=>hb),hz,h.nY,h.mY,h.yA,λb hb=>aE (h.alt b hb) (by simpa using hoT.size)⟩,
  nb::T,(hoT.mono (λb hb=>aU _ hb)).setCell (p:=⟨nb,2,none⟩) (by simp) v',λb hb=>?_⟩
 ·rw [aj.1 hm,hc1] at hcur;simp [de] at hcur
 ·rcases bg.1 hb with rfl | hb
  ·exact ⟨h.nY,.inl rfl⟩
  ·exact ⟨(hT b hb).1,.inr (hT b hb).2⟩
theorem IsQ.less {A':List Nat} (h:IsQ w A' Y v ms) (hs:∀b∈A,b∈A'):IsQ w A Y v ms:=by
 rcases h with h | ⟨g,off,c,cur,h1,h2,h3,h4,h5,h6,h7⟩
 ·exact .inl h
 ·refine .inr ⟨g,off,c,cur,h1,h2,h3,h4,h5,h6,λi hi=>?_⟩;obtain ⟨v,u,k1,k2,k3,k4,k5,k6⟩:=h7 i hi;exact ⟨v,u,k1,k2,k3,k4,k5,k6.less hs⟩
theorem IsNt.less {A':List Nat} (h:IsNt w A' Y nb mb n qv q es) (hs:∀b∈A,b∈A') (hy:∀b∈Y,b∈A):IsNt w A Y nb mb n qv q es :=
 ⟨h.net,h.cut,h.q.less hs,h.z,h.nY,h.mY,hy,λb hb=>h.alt b (hs b hb)⟩
theorem wu (ps:List MsV) (k:Nat):(ps.eraseIdx k).map MsV.m=(ps.map MsV.m).eraseIdx k:=by
 rw [lx,lx];simp
theorem tB (h:IsNt w A Y nb mb n qv q es) (x:Int) (hx:(decide (0<=x)&&decide (x<(q.length:Int)))=false) :
  Calls Tryz.prog 21 #[.pointer (some ⟨nb,0,none⟩),.int .i64 x] w λe w'=>e = .returned (.bool false)/\NtP w w' A Y nb n mb q es:=by
 obtain ⟨ao,c,_,H1⟩:=h.shape;have HH:=ab (iA H1 x);rw [hx] at HH;have HN:=ab h;clear h H1 hx;go_enter Tryz.func21,Tryz.ntmps21
 go_wp2_with fail
 refine HH.out.mono ?_;rintro e w1 ⟨rfl,rfl⟩;go_wp2_with fail
 go_ret
 exact ⟨rfl,HN.out.ntp (az _ _)⟩
set_option maxHeartbeats 1000000 in
theorem nz (h:IsNt w A Y nb mb n qv q es) (k:Nat) (hk:k<q.length) (hl:q.length<=1000000) :
  Calls Tryz.prog 21 #[.pointer (some ⟨nb,0,none⟩),.int .i64 (k:Int)] w λe w'=>e = .returned (.bool true)/\NtF w w' A Y nb mb n (q.eraseIdx k) es:=by
 obtain ⟨g,cap,ps,rfl,hgY,hps,hpm,hrow,cur,hcur⟩:=h.q.rows h.z (by omega);have H1:=h.net;have HH:=ab (iA H1 (k:Int));rw [aJ (by omega),aJ (by omega),mC] at HH;have hlen:ps.length=q.length:=by rw [<-hps,aP]
 have HD:=ab (t5 g ps k cap w (by rw [hlen];exact hrow) (λx hx=>(hpm x hx).one) (by omega) (by omega));rw [hlen] at HD;have hne:g≠nb:=λe=>by rw [e,H1] at hcur;simp [de] at hcur
 have hc0:w.cell? ⟨nb,2,none⟩=some (.slice (some ⟨g,0,none⟩) q.length cap):=by rw [af H1];rfl
 have HN:=ab h;have HF:=ab H1;have hcur':∃cur,w.heap[g]? = some (.cells cur 83 (0,0)):=⟨cur,hcur⟩
 have HX:=ab (And.intro hgY (And.intro hps (And.intro hpm hcur')));have HK:=ab hk;clear h H1 hgY hps hpm hrow hcur hcur' hlen;generalize hnn:q.length=m at *;have HNL:=ab hnn;clear hnn;go_enter Tryz.func21,Tryz.ntmps21
 go_wp2_with fail
 refine HH.out.mono ?_;rintro e w1 ⟨rfl,rfl⟩;go_wp2_with fail
 refine HD.out.mono ?_;rintro e w2 ⟨rfl,hrow,ho⟩;have HROW:=ab hrow;have HO:=ab ho;have hA2:=ho.keeps HF.out (by simpa using λe=>hne e.symm);unfold de at hA2;have hc32:w2.cell? ⟨nb,2,none⟩=some (.slice (some ⟨g,0,none⟩) m cap):=by rw [af hA2];rfl
 have hf32:=aM hA2 2;clear hrow ho hA2;go_wp2_with fail
 go_ret
 obtain ⟨hgY,hps,hpm,cur,hcur⟩:=HX.out;have hko:=HK.out;have hle:(q.eraseIdx k).length=m - 1:=by rw [List.length_eraseIdx_of_lt (by rw [HNL.out];exact hko),HNL.out]
 refine ⟨rfl,HN.out.setqF ?_ HO.out (λb hb=>by rw [aj.1 hb];exact ⟨hgY,cur,hcur⟩) (λp n c e=>by cases e;rfl)⟩;rw [<-hle];refine IsQ.of_rows (ps:=ps.eraseIdx k) (by rw [hle];exact HROW.out) hgY (by rw [wu,hps]) (λx hx=>?_);exact (hpm x ((List.eraseIdx_sublist ..).subset hx)).step HO.out (λb hb=>by rw [aj.1 hb];exact HN.out.yA _ hgY) (Ext.refl _ _)
end
def lI (w:World) (H:Nat) (f t k:Int) (v u:Value):World :=
 ((((w.setCell ⟨H,0,none⟩ (.int .i64 f)).setCell ⟨H,1,none⟩ (.int .i64 t)).setCell ⟨H,2,none⟩ (.int .i64 k)).setCell ⟨H,3,none⟩ v).setCell ⟨H,4,none⟩ u
theorem gd (w:World) (H:Nat) (f t k:Int) (v u:Value):Only [H] w (lI w H f t k v u) :=
 (((((Only.refl _ _).setCell (by simp) _).setCell (by simp) _).setCell (by simp) _).setCell (by simp) _).setCell (by simp) _
theorem oU {w:World} {H:Nat} (f t k:Int) (v u:Value) (h:w.heap[H]? = some cM):(lI w H f t k v u).heap[H]? = some (.cells #[.int .i64 f,.int .i64 t,.int .i64 k,v,u] 83 (0,0)):=by
 unfold cM at h;have:=aR (aR (aR (aR (aR h 0 (.int .i64 f)) 1 (.int .i64 t)) 2 (.int .i64 k)) 3 v) 4 u;simpa [lI] using this
def lM (m:Msg) (v u:Value):Obj:=.cells #[.int .i64 m.frm,.int .i64 m.dst,.int .i64 m.kind,v,u] 83
theorem gR {w:World} {X:Nat} {m:Msg} {v u:Value} (h:w.heap[X]? = some (lM m v u)):w.cell? ⟨X,0,none⟩=some (.int .i64 m.frm)/\w.cell? ⟨X,1,none⟩=some (.int .i64 m.dst)/\w.cell? ⟨X,2,none⟩=some (.int .i64 m.kind)/\w.cell? ⟨X,3,none⟩=some v/\w.cell? ⟨X,4,none⟩=some u:=by
 unfold lM at h;refine ⟨?_,?_,?_,?_,?_⟩;all_goals rw [af h];rfl
theorem IsMsg.shapes {w:World} {A:List Nat} {m:Msg} {v u:Value} (h:IsMsg w A m v u):(∃a c,v = .slice a m.N.length c)/\∃a b c,u = .slice a b c:=by
 obtain ⟨a,c,e,_⟩:=id h.n;refine ⟨⟨a,c,e⟩,?_⟩;rcases h.b with ⟨rfl,_⟩ | ⟨_,_,_,rfl,_⟩
 ·exact ⟨_,_,_,rfl⟩
 ·exact ⟨_,_,_,rfl⟩
section
variable {w w':World} {A Y:List Nat} {nb mb n:Nat} {qv v:Value} {q ms:List Msg} {es:Cuts}
set_option maxHeartbeats 8000000 in
theorem nw (h:IsNt w A Y nb mb n qv q es) (k:Nat) (hk:k<q.length) (hl:q.length<=1000000) (hm:gV q[k]) :
  Calls Tryz.prog 39 #[.pointer (some ⟨nb,0,none⟩),.int .i64 (k:Int)] w λe w'=>∃v u,e = .returned (.tuple #[df q[k] v u,.bool true])/\IsMsg w' A q[k] v u/\NtF w w' A Y nb mb n (q.eraseIdx k) es:=by
 have hbz:Below w.heap.size w (w.alloc cM):=(az _ _).alloc (ah _) cM;have hN1:IsNt (w.alloc cM) (A++[w.heap.size]) Y nb mb n qv q es:=h.keep (Only.ofBelow hbz []) (λb hb=>by cases hb) (λb _=>by simp) (uU w A) (λb hb=>aG _ hb) (λb hb=>by
  rcases ap.1 hb with g | g
  ·exact aE (h.alt b g) (by simp)
  ·rw [aj.1 g];simp)
 have HA:=ab (yV hN1 k hk hl hm);have HN0:=ab h;have HN1:=ab hN1;have HZ:=ab (aK w cM);unfold cM at HA;change Hid (Calls Tryz.prog 69 _ _ λe w'=>∃v u,e = .returned (.tuple #[df q[k] v u,.bool true])/\IsMsg w' _ q[k] v u/\_) at HA;have HYl:Hid (∀b∈Y,b<w.heap.size):=ab (λb hb=>h.alt b (h.yA b hb));generalize q[k]=x at *;unfold df at HA ⊢;clear h hN1 hbz hm;go_enter Tryz.func39,Tryz.ntmps39
 go_wp2_with fail
 refine HA.out.mono ?_;rintro e w1 ⟨v,u,rfl,hown,hb⟩;obtain ⟨⟨av,cv,rfl⟩,av2,bv,cw,rfl⟩:=hown.shapes;have hb':Below (w.alloc cM).heap.size (w.alloc cM) w1:=hb;have hR1:w1.heap[w.heap.size]? = some cM:=bd hb' (by simp) HZ.out;have hs1:w.heap.size+1<=w1.heap.size:=by have:=hb'.size;simpa using this
 have hN2:=HN1.out.below hb';have HBB:=ab (((az _ w).alloc (ah _) cM).trans (hb'.mono (by simp)));have HV:=ab hown;clear hown hb hb';generalize hRR:w.heap.size=R at *;have HRR:=ab hRR;clear hRR;obtain ⟨O,hO⟩:∃O,O=lM x (.slice av x.N.length cv) (.slice av2 bv cw):=⟨_,rfl⟩
 have hN3:=hN2.below ((az _ _).alloc (ah _) O);have HX:=ab (aK w1 O);have HR1:=ab (bb hR1 O);have hsz2:(w1.alloc O).heap.size=w1.heap.size+1:=by simp
 have HB2:=ab (HBB.out.alloc (by have:=HRR.out;omega) O);have HV2:=ab (HV.out.below ((az _ _).alloc (ah _) O));have HL:=ab (λw' (hb:Below (w1.alloc O).heap.size (w1.alloc O) w')=>nz (hN3.below hb) k hk hl);have HN3:=ab hN3;subst hO;obtain ⟨x0,x1,x2,x3,x4⟩:=gR HX.out;obtain ⟨⟨z0,z1,z2,z3,z4⟩,f0,f1,f2,f3,f4⟩:=gq HR1.out;have hXR:w1.heap.size≠R:=by omega
 have hkeep:∀j,j=w1.heap.size\/j=R->j∉Y:=by
  intro j hj hm;have:=HYl.out j hm;omega
 have HKP:=ab hkeep;clear hN2 hN3 hR1 hkeep;unfold lM at x0 x1 x2 x3 x4 z0 z1 z2 z3 z4 f0 f1 f2 f3 f4;unfold lM at HL;go_wp2_with fail
 go_region_with (go_at_call 21;refine (HL.out _ (by exact bq _)).mono ?_;rintro e w3 ⟨rfl,hn3⟩;obtain ⟨qv3,hI3,T3,ho3,hT3⟩:=hn3;have hX3:=ho3.keeps HX.out (λhm=>HKP.out _ (.inl rfl) (hT3 _ hm).1);have hR3:=ho3.keeps HR1.out (λhm=>HKP.out _ (.inr rfl) (hT3 _ hm).1);obtain ⟨y0,y1,y2,y3,y4⟩:=gR hX3;obtain ⟨⟨u0,u1,u2,u3,u4⟩,e0,e1,e2,e3,e4⟩:=gq hR3)
 all_goals
  have HR3:=ab hR3;have HN4:=ab hI3;have HO3:=ab ho3;have HT3:=ab hT3;clear hX3 hR3 hI3 ho3 hT3 y0 y1 y2 y3 y4 u0 u1 u2 u3 u4 e0 e1 e2 e3 e4 x0 x1 x2 x3 x4 z0 z1 z2 z3 z4 f0 f1 f2 f3 f4;go_wp2_with fail
  (try simp only [Exit.inBlock,Exit.then])
  have hrr:=HRR.out;change bodyPost _ _ _ _ _ (lI w3 R x.frm x.dst x.kind (.slice av x.N.length cv) (.slice av2 bv cw));have oR:=gd w3 R x.frm x.dst x.kind (.slice av x.N.length cv) (.slice av2 bv cw);have hRA:∀b∈[R],b∈A++[R]:=λb hb=>aO _ hb;have hYR:R∉Y:=HKP.out _ (.inr rfl);have o3:Only T3 (w1.alloc (lM x (.slice av x.N.length cv) (.slice av2 bv cw))) w3:=⟨HO3.out.os,HO3.out.tape,HO3.out.output,HO3.out.size,HO3.out.block⟩
  have hb2:=HB2.out;rw [<-hrr] at hb2;have o4:Only T3 w w3:=(Only.ofBelow hb2 T3).trans o3;refine bodyPost_ret (fs (fn:=Tryz.f39) rfl _ _ R _ _ _ _ _ _ rfl rfl (oU _ _ _ _ _ HR3.out)) rfl ⟨_,_,rfl,?_,?_⟩
  ·exact ((HV2.out.step o3 (λb hb=>aG _ (HN0.out.yA b (HT3.out b hb).1)) (Ext.refl _ _)).step oR hRA (Ext.refl _ _)).less (λb hb=>aG _ hb)
  ·refine ⟨qv3,(HN4.out.keep oR hRA (λb hb hm=>by rw [aj.1 hm] at hb;exact hYR hb) (Ext.refl _ _) (λb hb=>hb) (λb hb=>aE (HN4.out.alt b hb) oR.size)).less (λb hb=>aG _ hb) HN0.out.yA,T3,⟨oR.os.trans o4.os,oR.tape.trans o4.tape,oR.output.trans o4.output,aD o4.size oR.size,λk hk hn=>(oR.block k (aE hk o4.size) (by simp;omega)).trans (o4.block k hk hn)⟩,λb hb=>?_⟩;obtain ⟨k1,k2⟩:=HT3.out b hb;have e1:(w1.alloc (lM x (.slice av x.N.length cv) (.slice av2 bv cw))).heap[b]? = w.heap[b]? := hb2.block b (HN0.out.alt b (HN0.out.yA b k1));refine ⟨k1,k2.imp id (λ⟨cur,hc⟩=>⟨cur,?_⟩)⟩;rw [<-e1];exact hc
set_option maxHeartbeats 4000000 in
theorem tx (h:IsNt w A Y nb mb n qv q es) (x:Int) (hx:(decide (0<=x)&&decide (x<(q.length:Int)))=false) :
  Calls Tryz.prog 39 #[.pointer (some ⟨nb,0,none⟩),.int .i64 x] w λe w'=>e = .returned (.tuple #[df kW (.slice none 0 0) (.slice none 0 0),.bool false])/\Below w.heap.size w w':=by
 have hbz:Below w.heap.size w (w.alloc cM):=(az _ _).alloc (ah _) cM;have hN1:=h.below hbz;have HB:=ab (yW hN1 x hx);have HZ:=ab (aK w cM);unfold cM at HB;change Hid (Calls Tryz.prog 69 _ _ λe w'=>e = .returned (.tuple #[df kW (.slice none 0 0) (.slice none 0 0),.bool false])/\_) at HB;unfold df kW at HB ⊢;clear h hN1 hbz hx;go_enter Tryz.func39,Tryz.ntmps39
 go_wp2_with fail
 refine HB.out.mono ?_;rintro e w1 ⟨rfl,hb⟩;have hb':Below (w.alloc cM).heap.size (w.alloc cM) w1:=hb;have hR1:w1.heap[w.heap.size]? = some cM:=bd hb' (by simp) HZ.out;have hs1:w.heap.size+1<=w1.heap.size:=by have:=hb'.size;simpa using this
 have HBB:=ab (((az _ w).alloc (ah _) cM).trans (hb'.mono (by simp)));clear hb hb';have HR1:=ab (bb hR1 cM);have HX:=ab (aK w1 cM);obtain ⟨⟨x0,x1,x2,x3,x4⟩,_⟩:=gq HX.out;obtain ⟨⟨z0,z1,z2,z3,z4⟩,f0,f1,f2,f3,f4⟩:=gq HR1.out;unfold cM at x0 x1 x2 x3 x4 z0 z1 z2 z3 z4 f0 f1 f2 f3 f4;clear hR1;go_wp2_with fail
 have HXR:Hid (w1.heap.size∉[w.heap.size]):=ab (by simp;omega);have hdr:∀(V:World) p u,V.cell? p=some u->V.drew.cell? p=some u:=λ_ _ _ h=>h;have HPK:Hid (((lI (w1.alloc (.cells #[.int .i64 0,.int .i64 0,.int .i64 0,.slice none 0 0,.slice none 0 0] 83)) w.heap.size 0 0 0 (.slice none 0 0) (.slice none 0 0)).drew).cell? ⟨w1.heap.size,0,none⟩=some (.int .i64 0)/\((lI (w1.alloc (.cells #[.int .i64 0,.int .i64 0,.int .i64 0,.slice none 0 0,.slice none 0 0] 83)) w.heap.size 0 0 0 (.slice none 0 0) (.slice none 0 0)).drew).cell? ⟨w1.heap.size,1,none⟩=some (.int .i64 0)/\((lI (w1.alloc (.cells #[.int .i64 0,.int .i64 0,.int .i64 0,.slice none 0 0,.slice none 0 0] 83)) w.heap.size 0 0 0 (.slice none 0 0) (.slice none 0 0)).drew).cell? ⟨w1.heap.size,2,none⟩=some (.int .i64 0)/\((lI (w1.alloc (.cells #[.int .i64 0,.int .i64 0,.int .i64 0,.slice none 0 0,.slice none 0 0] 83)) w.heap.size 0 0 0 (.slice none 0 0) (.slice none 0 0)).drew).cell? ⟨w1.heap.size,3,none⟩=some (.slice none 0 0)/\((lI (w1.alloc (.cells #[.int .i64 0,.int .i64 0,.int .i64 0,.slice none 0 0,.slice none 0 0] 83)) w.heap.size 0 0 0 (.slice none 0 0) (.slice none 0 0)).drew).cell? ⟨w1.heap.size,4,none⟩=some (.slice none 0 0)):=ab ⟨hdr _ _ _ ((gd (w1.alloc (.cells #[.int .i64 0,.int .i64 0,.int .i64 0,.slice none 0 0,.slice none 0 0] 83)) w.heap.size 0 0 0 (.slice none 0 0) (.slice none 0 0)).cell x0 HXR.out),hdr _ _ _ ((gd (w1.alloc (.cells #[.int .i64 0,.int .i64 0,.int .i64 0,.slice none 0 0,.slice none 0 0] 83)) w.heap.size 0 0 0 (.slice none 0 0) (.slice none 0 0)).cell x1 HXR.out),hdr _ _ _ ((gd (w1.alloc (.cells #[.int .i64 0,.int .i64 0,.int .i64 0,.slice none 0 0,.slice none 0 0] 83)) w.heap.size 0 0 0 (.slice none 0 0) (.slice none 0 0)).cell x2 HXR.out),hdr _ _ _ ((gd (w1.alloc (.cells #[.int .i64 0,.int .i64 0,.int .i64 0,.slice none 0 0,.slice none 0 0] 83)) w.heap.size 0 0 0 (.slice none 0 0) (.slice none 0 0)).cell x3 HXR.out),hdr _ _ _ ((gd (w1.alloc (.cells #[.int .i64 0,.int .i64 0,.int .i64 0,.slice none 0 0,.slice none 0 0] 83)) w.heap.size 0 0 0 (.slice none 0 0) (.slice none 0 0)).cell x4 HXR.out)⟩;clear hdr;have HVH:Hid ((lI (w1.alloc (.cells #[.int .i64 0,.int .i64 0,.int .i64 0,.slice none 0 0,.slice none 0 0] 83)) w.heap.size 0 0 0 (.slice none 0 0) (.slice none 0 0)).heap[w.heap.size]? = some (.cells #[.int .i64 0,.int .i64 0,.int .i64 0,.slice none 0 0,.slice none 0 0] 83 (0,0))):=ab (oU _ _ _ _ _ HR1.out);have HVB:Hid (Below w.heap.size w (lI (w1.alloc (.cells #[.int .i64 0,.int .i64 0,.int .i64 0,.slice none 0 0,.slice none 0 0] 83)) w.heap.size 0 0 0 (.slice none 0 0) (.slice none 0 0))):=ab (((HBB.out.alloc (by omega) _).trans ((gd (w1.alloc (.cells #[.int .i64 0,.int .i64 0,.int .i64 0,.slice none 0 0,.slice none 0 0] 83)) w.heap.size 0 0 0 (.slice none 0 0) (.slice none 0 0)).below (by simp;omega) (by simp))));go_upto_region 2 with (fail)
 refine wp_region_held_drew (S:=λw'=>w'.cell? ⟨w1.heap.size,0,none⟩=some (.int .i64 0)/\w'.cell? ⟨w1.heap.size,1,none⟩=some (.int .i64 0)/\w'.cell? ⟨w1.heap.size,2,none⟩=some (.int .i64 0)/\w'.cell? ⟨w1.heap.size,3,none⟩=some (.slice none 0 0)/\w'.cell? ⟨w1.heap.size,4,none⟩=some (.slice none 0 0)) (by kernel_rfl) ⟨x0,x1,x2,x3,x4⟩ (λam=>?_);refine aB 0 ?_;refine aB 1 ?_;refine aB 2 ?_;refine bP 3 ?_;refine bP 4 ?_;refine bP 5 ?_;refine aB 6 ?_;refine cC 7 λK hK=>?_;go_simp
 refine hK.out _ _ (by exact HPK.out) (λam=>?_);clear hK K;refine bH ?_;refine aB 8 ?_;refine fI ?_;go_wp2_with fail
 (try simp only [Exit.inBlock,Exit.then])
 change bodyPost _ _ _ _ _ (lI (w1.alloc (.cells #[.int .i64 0,.int .i64 0,.int .i64 0,.slice none 0 0,.slice none 0 0] 83)) w.heap.size 0 0 0 (.slice none 0 0) (.slice none 0 0)).drew;generalize hV:lI (w1.alloc (.cells #[.int .i64 0,.int .i64 0,.int .i64 0,.slice none 0 0,.slice none 0 0] 83)) w.heap.size 0 0 0 (.slice none 0 0) (.slice none 0 0)=V at *;exact bodyPost_ret (fs (fn:=Tryz.f39) rfl _ _ w.heap.size _ _ _ _ _ _ rfl rfl (show V.drew.heap[w.heap.size]? = _ from HVH.out)) rfl ⟨rfl,HVB.out.trans ((bq V).mono HVB.out.size)⟩
end
section
variable {w w':World} {A Y:List Nat} {nb mb n:Nat} {qv v:Value} {q ms:List Msg} {es:Cuts}
theorem IsNt.cell_qp {v':Value} {q':List Msg} (h:IsNt w A Y nb mb n qv q es) (hp:QP w w' A Y v' q'):w'.heap[nb]? = some (de (n:Int) 2000 qv mb):=by
 obtain ⟨A',Y',hq,hm,ha,hyA,hyn,T,hoT,hT⟩:=hp;refine hoT.keeps h.net (λhm=>?_);obtain ⟨_,cur,hc⟩:=hT nb hm;rw [h.net] at hc;simp [de] at hc
theorem QP.shape {q:List Msg} {v':Value} (hp:QP w w' A Y v' q):∃ao k c,v' = .slice ao k c:=by
 obtain ⟨A',Y',hq,_⟩:=hp;obtain ⟨ao,c,h1,_⟩:=hq.shape;exact ⟨ao,_,c,h1⟩
set_option maxHeartbeats 1000000 in
theorem rn (h:IsNt w A Y nb mb n qv q es) (x:Int) (hx:(decide (0<=x)&&decide (x<(q.length:Int)))=false\/(2000:Int)<=(q.length:Int)) :
  Calls Tryz.prog 22 #[.pointer (some ⟨nb,0,none⟩),.int .i64 x] w λe w'=>e = .returned (.bool false)/\Below w.heap.size w w':=by
 obtain ⟨ao,cap,rfl,H1⟩:=h.shape;have HH:Hid (∀d,Calls Tryz.prog 41 #[.pointer (some ⟨nb,0,none⟩),.int .i64 x] (w.drewN d) λe w'=>e = .returned (.bool (decide (0<=x)&&decide (x<(q.length:Int))))/\w.drewN d=w'):=ab λd=>iA (h.below (ak w d)).net x;have hc1:w.cell? ⟨nb,1,none⟩=some (.int .i64 2000):=by rw [af H1];rfl
 have hc2:w.cell? ⟨nb,2,none⟩=some (.slice ao q.length cap):=by rw [af H1];rfl
 clear H1 h;generalize hb:(decide (0<=x)&&decide (x<(q.length:Int)))=b at *;generalize q.length=m at *;clear hb;cases b
 ·clear hx;go_enter Tryz.func22,Tryz.ntmps22
  go_wp2_with fail
  go_quiet ((go_at_call 41;exact i6 (HH.out _)))
  go_wp2_with fail
  go_ret
  exact ⟨rfl,ak _ _⟩
 ·have hr:(2000:Int)<=(m:Int):=by rcases hx with hx | hx;cases hx;exact hx
  have d0:decide ((2000:Int)<=(m:Int))=true:=aJ hr;clear hx hr;go_enter Tryz.func22,Tryz.ntmps22
  go_wp2_with fail
  go_quiet ((go_at_call 41;exact i6 (HH.out _)))
  go_wp2_with fail
  go_ret
  exact ⟨rfl,ak _ _⟩
set_option maxHeartbeats 8000000 in
theorem tD (h:IsNt w A Y nb mb n qv q es) (k:Nat) (hk:k<q.length) (hl:q.length<2000) (hm:gV q[k]) :
  Calls Tryz.prog 22 #[.pointer (some ⟨nb,0,none⟩),.int .i64 (k:Int)] w λe w'=>e = .returned (.bool true)/\NtP w w' A Y nb n mb (q++[q[k]]) es:=by
 have HH:Hid (∀d,Calls Tryz.prog 41 #[.pointer (some ⟨nb,0,none⟩),.int .i64 (k:Int)] (w.drewN d) λe w'=>e = .returned (.bool true)/\w.drewN d=w'):=ab λd=>by
  obtain ⟨ao,cap,_,H1⟩:=h.shape;have:=iA (bd (ak w d) (aQ H1) H1) (k:Int)
  rwa [aJ (show (0:Int)<=k by omega),aJ (show (k:Int)<(q.length:Int) by omega)] at this
 obtain ⟨g,off,c,mv,mu,rfl,hcc,e0,e1,e2,e3,e4,hmsg⟩:=h.q.at k hk;have H1:=h.net;have hc1:w.cell? ⟨nb,1,none⟩=some (.int .i64 2000):=by rw [af H1];rfl
 have c2:w.cell? ⟨nb,2,none⟩=some (.slice (some ⟨g,off,none⟩) q.length c):=by rw [af H1];rfl
 have HN:=ab h;obtain ⟨⟨ao,cN,rfl⟩,a2,b2,d2,rfl⟩:=hmsg.shapes;have HCP:Hid (∀w',Below w.heap.size w w'->Calls Tryz.prog 43 #[df q[k] (.slice ao q[k].N.length cN) (.slice a2 b2 d2)] w' λe w''=>∃v' u',e = .returned (df q[k] v' u')/\IsMsg w'' A q[k] v' u'/\Below w'.heap.size w' w''):=ab λw' hb=>kC q[k] _ _ w' (hmsg.below hb) hm (λb hb2=>aE (h.alt b hb2) hb.size);unfold df at HCP;generalize q[k]=x at *;have hkn:(k:Int)<(q.length:Int):=by omega
 have d0:decide ((2000:Int)<=(q.length:Int))=false:=aW (by omega);clear H1 h hmsg hm;generalize htn:q.length=tn at *;have HTN:=ab htn;clear htn;go_enter Tryz.func22,Tryz.ntmps22
 go_wp2_with fail
 go_quiet ((go_at_call 41;exact i6 (HH.out _)))
 go_wp2_with fail
 go_region_law (first
  | (refine dm rfl λQ' hQ=>?_;refine ji rfl (.tmp 25) (.tmp 34) rfl (by exact HN6.out.q) (by exact HN6.out.yA) (by exact HN6.out.alt) (by exact HH6.out) (by exact HM6.out) (by have:=HTN.out;omega) (by rfl) (by rfl) ?_;intro v9 w9 hqp hz9;obtain ⟨a9,n9,c9,e9⟩:=hqp.shape;subst e9;have hc9:=HN6.out.cell_qp hqp;unfold de at hc9;have hcb9:w9.cell? ⟨nb,2,none⟩=some (.slice (some ⟨g,off,none⟩) tn c):=(af hc9 2).trans rfl;have hfb9:=aM hc9 2;refine hQ _ _ ?_;clear hQ Q' hc9)
  | (go_simp;go_at_call 43;refine (HCP.out _ (by exact ⟨rfl,rfl,rfl,ah _,λ_ _=>rfl⟩)).mono ?_;rintro e w5 ⟨v5,u5,rfl,hv5,hb5⟩;obtain ⟨⟨av,cv,rfl⟩,av2,bv,cw,rfl⟩:=hv5.shapes;try dsimp only;have hb5':Below w.heap.size w w5:=⟨hb5.os,hb5.tape,hb5.output,hb5.size,hb5.block⟩;have ha25:=cell_later hb5' c2;have hbO:Below w5.heap.size w5 (w5.alloc (.cells #[.int .i64 x.frm,.int .i64 x.dst,.int .i64 x.kind,.slice av x.N.length cv,.slice av2 bv cw] 83)):=(az _ _).alloc (ah _) _;have ha25a:=cell_later hbO ha25;have HN6:=ab ((HN.out.below hb5').below hbO);have HM6:=ab (hv5.below hbO);have HH6:=ab (aK w5 (.cells #[.int .i64 x.frm,.int .i64 x.dst,.int .i64 x.kind,.slice av x.N.length cv,.slice av2 bv cw] 83));have HB6:=ab (hb5'.trans (hbO.mono hb5'.size));clear hb5 hv5 hb5' hbO))
 all_goals
  have HF:=ab (NtP.later HN.out HB6.out (HN6.out.setq hqp (hz9 HN.out.z)));clear hqp hz9 hcb9 hfb9 ha25 ha25a e0 e1 e2 e3 e4;go_wp2_with fail
  go_ret
  exact ⟨rfl,HF.out⟩
end
section
variable {w w':World} {A A':List Nat}
def MsRow (w:World) (A:List Nat) (v:Value) (ms:List Msg):Prop :=
 (v = .slice none 0 0/\ms=[])\/∃g c cur,v = .slice (some ⟨g,0,none⟩) ms.length c/\ms.length<=c/\c<=9223372036854775807/\g∉A/\w.heap[g]? = some (.cells cur 83 (0,0))/\∀i,(h:i<ms.length)->QAt w A cur i ms[i]
theorem MsRow.step {v:Value} {ms:List Msg} {T:List Nat} (h:MsRow w A v ms) (ho:Only T w w') (hT:∀b∈T,b∈A) (he:Ext A A' w):MsRow w' A' v ms:=by
 rcases h with h | ⟨g,c,cur,h1,h2,h3,h4,h5,h6⟩
 ·exact .inl h
 ·refine .inr ⟨g,c,cur,h1,h2,h3,λhm=>?_,ho.keeps h5 (λhm=>h4 (hT _ hm)),λi hi=>(h6 i hi).step ho hT he⟩;rcases he g hm with h7 | h7
  ·exact h4 h7
  ·have:=aQ h5;omega
theorem OwnMs.row {base:Nat} {v:Value} {ms:List Msg} (h:OwnMs w A base v ms) (hv:∀b,v.ownBlock=some b->b∉A):MsRow w A v ms:=by
 obtain ⟨ps,h1,h2,h3⟩:=h;have hl:ps.length=ms.length:=by rw [<-h1,aP]
 rcases h2.2 with ⟨rfl,h0⟩ | ⟨g,cap,cur,rfl,hg,hh,hn,hm,hs,ht⟩
 ·exact .inl ⟨rfl,br.1 h0⟩
 ·unfold maxLen at hm;refine .inr ⟨g,cap,cur,rfl,hn,by omega,hv g rfl,hh,λi hi=>?_⟩;have hp:ps.getD i B0∈ps:=by
   have e:ps.getD i B0=ps[i]'(by omega):=by simp [List.getD,show i<ps.length by omega]
   rw [e];exact bO _
  have hm2:(ps.getD i B0).m=ms[i]:=by
   have e:ps.getD i B0=ps[i]'(by omega):=by simp [List.getD,show i<ps.length by omega]
   rw [e];simp [<-h1]
  have hc:∀j,j<5->cur[i*5+j]? = (dB (ps.getD i B0))[j]? := λj hj=>by
   rw [<-uo ps i j (by omega) hj,<-ht,cE,aA (by omega),ew]
  refine ⟨(ps.getD i B0).v,(ps.getD i B0).u,?_,?_,?_,?_,?_,?_⟩
  ·rw [<-hm2];exact hc 0 (by omega)
  ·rw [<-hm2];exact hc 1 (by omega)
  ·rw [<-hm2];exact hc 2 (by omega)
  ·exact hc 3 (by omega)
  ·exact hc 4 (by omega)
  ·rw [<-hm2];exact (h3 _ hp).less (λb hb=>aG _ hb)
def fK (q:List Msg) (m:Msg):List Msg:=if q.length<2000 then q++[m] else q
theorem sH (q:List Msg) (m:Msg) (h:q.length<=2000):(fK q m).length<=2000:=by
 unfold fK;split
 ·simp;omega
 ·exact h
end
def fz (ct:Msg->Bool) (q:List Msg) (m:Msg):List Msg:=if ct m then q else fK q m
theorem sI (ct:Msg->Bool) (ms:List Msg):∀q:List Msg,q.length<=2000->(ms.foldl (fz ct) q).length<=2000:=by
 induction ms with
 | nil=>exact λq h=>h
 | cons m ms ih =>
  intro q h;refine ih _ ?_;unfold fz;split
  ·exact h
  ·exact sH q m h
structure NtX (w w':World) (A Y A' Y':List Nat) (nb mb mb':Nat):Prop where
 mv:Mv A A' Y Y' w w'
 y:∀b∈Y',b∈Y\/w.heap.size<=b
 e:mb'=mb\/w.heap.size<=mb'
 t:∃T,Only T w w'/\∀b∈T,b∈Y/\(b=nb\/b=mb\/∃cur,w.heap[b]? = some (.cells cur 83 (0,0)))
section
variable {w w' w2:World} {A A' Y Y':List Nat} {nb mb mb' n:Nat} {qv:Value} {q q2:List Msg} {es es2:Cuts}
theorem NtX.trans (x:NtX w w' A Y A' Y' nb mb mb') (g:NtP w' w2 A' Y' nb n mb' q2 es2):NtP w w2 A Y nb n mb q2 es2:=by
 obtain ⟨m1,y1,e1,T1,o1,t1⟩:=x;obtain ⟨A2,Y2,mb2,qv2,h2,m2,y2,e2,T2,o2,t2⟩:=g;refine ⟨A2,Y2,mb2,qv2,h2,m1.trans m2,λb hb=>?_,?_,T1++T2.filter (λb=>decide (b<w.heap.size)),?_,λb hb=>?_⟩
 ·rcases y2 b hb with g1 | g1
  ·exact y1 b g1
  ·exact .inr (aD o1.size g1)
 ·rcases e2 with rfl | g1
  ·exact e1
  ·exact .inr (aD o1.size g1)
 ·refine ⟨o2.os.trans o1.os,o2.tape.trans o1.tape,o2.output.trans o1.output,aD o1.size o2.size,λk hk hn=>?_⟩;rw [ap,not_or] at hn;rw [o2.block k (aE hk o1.size) (λhm=>hn.2 (ol.2 ⟨hm,by simpa using hk⟩)),o1.block k hk hn.1]
 ·rcases ap.1 hb with g1 | g1
  ·exact t1 b g1
  ·obtain ⟨g2,g3⟩:=ol.1 g1;have g3:b<w.heap.size:=by simpa using g3
   obtain ⟨k1,k2⟩:=t2 b g2;have hbY:b∈Y:=by
    rcases y1 b k1 with k | k
    ·exact k
    ·omega
   refine ⟨hbY,?_⟩;by_cases hm:b∈T1
   ·exact (t1 b hm).2
   ·rcases k2 with k | k | ⟨cur,k⟩
    ·exact .inl k
    ·rcases e1 with e | e
     ·exact .inr (.inl (k.trans e))
     ·omega
    ·exact .inr (.inr ⟨cur,by rw [<-o1.block b g3 hm];exact k⟩)
theorem NtP.open (h:NtP w w' A Y nb n mb q es):∃A' Y' mb' qv,IsNt w' A' Y' nb mb' n qv q es/\NtX w w' A Y A' Y' nb mb mb':=by
 obtain ⟨A',Y',mb',qv,h,m,y,e,t⟩:=h;exact ⟨A',Y',mb',qv,h,m,y,e,t⟩
end
end Go.Proofs.YtnhefallmioefaaGreat
