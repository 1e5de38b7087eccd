/- What the law leans on. No condition. -/
import Derived.Test.YtnhefallmioefaaGreatW0
import Derived.Test.YtnhefallmioefaaGreatW1
import Derived.Test.YtnhefallmioefaaGreatW2
set_option maxHeartbeats 8000000
set_option linter.unusedVariables false
set_option linter.unusedSimpArgs false
namespace Go.Proofs.YtnhefallmioefaaGreat
open Go.RowKit Go.ChangeMaps Go.WideMaps Go.Maps
set_option maxRecDepth 20000
theorem Cq {p:Prop} (h:p:=by
 refine dh 16 λK hK=>?_;refine d8 rfl λQ' hQ=>?_;refine ii rfl (.tmp 35) (.tmp 46) 74 rfl 3 Tryz.underlying74 F.info3 (.slice ae s.recs.length ce) (dH s.recs) rfl Zt.out _ 1 1 [(fl:Int)+(m9:Int)] rfl (lP Ri.out) hlen ?_;intro ve5 w5 PS Rl SK;refine hQ _ _ ?_;clear hQ Q';have h5:=Rl.keeps HL1.out (lM Zt.out HL1.out bL);refine hK.out _ _ ((ap h5 4).trans rfl) (λaD=>?_);clear hK K;refine bX ?_;have HL5:=af h5;have RJ:=af PS;have Zl:=af Rl;have Wx:=af SK;clear h5 PS Rl SK;refine aJ 17 ?_;refine aJ 18 ?_;refine dh 19 λK hK=>?_;have hy:w5.cell? ⟨l,5,none⟩=some (.slice ae s.recs.length ce):=(ap HL5.out 5).trans rfl;have hz:=aU HL5.out 5;obtain ⟨a5,c5,e5,_⟩:=RJ.out.Xr;rw [aE,gK] at e5;simp only [aX,fp,cB] at e5;subst e5;go_simp
 clear hy hz;refine hK.out _ _ ((ap (be HL5.out 5 _) 4).trans rfl) (λaD=>?_);clear hK K;refine bX ?_;refine iX ?_;go_wp2_with fail
 go_meet
 exact ⟨a5,c5,w5,rfl,RJ.out,(Only.OL PK.out _).trans Zl.out,λk hk=>(Wx.out k hk).imp id (λh=>aF PK.out.size h)⟩):p:=h
theorem Cp {p:Prop} (h:p:=by
 refine dh 15 λK hK=>?_;go_simp
 have h1:=bD HLW.out (.cells #[.int .i64 ((fl:Int)+(m9:Int))] 3);have h2:=aV V (.cells #[.int .i64 ((fl:Int)+(m9:Int))] 3);have h3:OX (V.alloc (.cells #[.int .i64 ((fl:Int)+(m9:Int))] 3)) 0 3 (.slice ae s.recs.length ce) (dH s.recs):=HEV0.out.alloc _;have Sx:Below V.heap.size V (V.alloc (.cells #[.int .i64 ((fl:Int)+(m9:Int))] 3)):=(aG _ _).alloc (ah _) _;refine hK.out _ _ ((ap h1 4).trans rfl) (λaD=>?_);clear hK K;refine bX ?_;generalize V.alloc (.cells #[.int .i64 ((fl:Int)+(m9:Int))] 3)=v1 at *;have HL1:=af h1;have Ri:=af h2;have Zt:=af h3;have PK:=af Sx;clear h1 h2 h3 Sx;exact Cq):p:=h
theorem Co {p:Prop} (h:p:=by
 refine dh 8 λK hK=>?_;refine d8 rfl λQ' hQ=>?_;refine fE rfl (.tmp 54) (.tmp 57) 29 rfl 31 i0 (.slice none 0 0) 1 24 Tryz.underlying29 HI0.out.1 HI0.out.2.1 HI0.out.2.2.1 HI0.out.2.2.2 rfl dZ (.slice ar s.recs.length cr) s.recs.length us rfl HRU7.out (some ⟨X7,0,none⟩) 1 1 rfl (λe=>by cases e) [.slice a6 n c6] rfl (LP HN7.out) (by simp [Value.oneCell']) kE az ?_;intro v8 w8 TG RV VW;refine hQ _ _ ?_;clear hQ Q';have h5:=RV.keeps HL7.out (λhm=>by have h6:=d9 HRU7.out ud;rw [HL7.out] at h6;simp at h6);have h7:OW v7 V.heap.size 5 (.slice a6 n c6) rec:=HO7.out;have h8:=bR h7 RV (λb hb hm=>kA (h7.mono (aH _)) (d9 HRU7.out ud) bL (by rw [hb];simp));refine hK.out _ _ trivial (λaD=>?_);clear hK K;refine bX ?_;obtain ⟨a8,c8,e8,_,_⟩:=ej TG;subst e8;have HL8:=af h5;have HO8:=af TG;have Zk:=af RV;have XQ:=af VW;have HV8:=af h8;clear h5 h7 h8 TG RV VW;refine aJ 9 ?_;refine aJ 10 ?_;refine dh 11 λK hK=>?_;have hy:w8.cell? ⟨l,4,none⟩=some (.slice ar s.recs.length cr):=(ap HL8.out 4).trans rfl;have hz:=aU HL8.out 4;go_simp
 clear hy hz;refine hK.out _ _ trivial (λaD=>?_);clear hK K;refine bX ?_;refine iX ?_;go_wp2_with fail
 go_meet
 exact ⟨a8,c8,.slice a6 n c6,w8,rfl,HO8.out,HV8.out,HL8.out,(Only.OL ZA.out _).trans Zk.out,λk hk=>(XQ.out k hk).imp id (λh=>aF ZA.out.size h)⟩):p:=h
theorem Cn {p:Prop} (h:p:=by
 refine hK.out _ _ trivial (λaD=>?_);clear hK K;refine bX ?_;refine dh 7 λK hK=>?_;go_simp
 have h1:=bD HL6b.out (.cells #[.slice a6 n c6] 31);have h2:=aV w6 (.cells #[.slice a6 n c6] 31);have h3:=World.ownsRow.alloc Zj.out (.cells #[.slice a6 n c6] 31);have h4:=HO6b.out.alloc (.cells #[.slice a6 n c6] 31);have Yf:Below V.heap.size V (w6.alloc (.cells #[.slice a6 n c6] 31)):=TQ.out.alloc TQ.out.size _;refine hK.out _ _ trivial (λaD=>?_);clear hK K;refine bX ?_;generalize w6.alloc (.cells #[.slice a6 n c6] 31)=v7 at *;generalize w6.heap.size=X7 at *;have HL7:=af h1;have HN7:=af h2;have HRU7:=af h3;have HO7:=af h4;have ZA:=af Yf;clear h1 h2 h3 h4 Yf;exact Co):p:=h
theorem F.info3:(Tryz.prog.info? 3).map (λi=>(i.zero,i.size,i.bytes))=some (some (.int .i64 0),1,8):=dW
theorem Uf.src {w:World} {ao:Option Addr} {m c:Nat} {l:List Int} (h:Uf w ao m c l):NK w ao m (l.map iv):=by
 obtain ⟨h1,h2,h3⟩:=h;cases ao with
 | none=>exact .inl ⟨rfl,(h2 rfl).1⟩
 | some ad =>
  refine .inr ⟨ad,rfl,λj u hj=>?_⟩;rcases h3 with h3 | ⟨b,off,h4,h5⟩
  ·exact I8
  ·obtain rfl:ad=⟨b,off,none⟩:=by simpa using h4
   have PI:j<l.length:=JJ;exact Jq
theorem lP {w:World} {b:Nat} {z:Int} {t:TypeId} (h:w.heap[b]? = some (.cells #[.int .i64 z] t (0,0))):Uf w (some ⟨b,0,none⟩) 1 1 [z]:=by
 refine ⟨rfl,(λe=>by cases e),.inr ⟨b,0,rfl,λi hi=>?_⟩⟩;obtain rfl:i=0:=az;rw [ap h];rfl
theorem ii {P:Program} {w:World} {ops:Array Oper} {rest:List Oper} {o:Oper} {a:Act} {Q:Exit->Act->World->Prop} (hgd:o.guard=none) (s x:Operand) (t:TypeId)
  (ho:o.op = .call { callee:=.builtin .append,args:=#[s,x],argTypes:=#[t,t]})
  (e:TypeId) (ht:P.underlying t=some (.slice e)) (hi:(P.info? e).map (λi=>(i.zero,i.size,i.bytes))=some (some (.int .i64 0),1,8))
  (v:Value) (l:List Int) (hs:a.eval s=v) (hown:OX w 0 e v l)
  (ao:Option Addr) (m c:Nat) (l2:List Int) (hx:a.eval x = .slice ao m c) (QX:Uf w ao m c l2) (hbytes:l.length+m<=17592186044416)
  (h:∀v' w',OX w' 0 e v' (l++l2)->Only v.ownBlock.toList w w'->(∀k,v'.ownBlock=some k->v.ownBlock=some k\/w.heap.size<=k)->wpList P ops Q rest (a.put o.dst v') w'):wpList P ops Q (o::rest) a w:=by
 obtain ⟨i0,Q4,hz0,hz1,hz2⟩:=info_parts hi;refine fE hgd s x t ho e i0 (.int .i64 0) 1 8 ht Q4 hz0 hz1 hz2 rfl dZ v _ _ hs hown ao m c hx (λe=>(QX.nil e).2) (l2.map iv) (by rw [aW,QX.len,Nat.mul_one]) QX.src ?_ kE az ?_
 ·exact GQ
 ·intro v' w' g1 g2 g3;refine h v' w' ?_ g2 g3;unfold OX;rw [aE,QX.len,cy];exact g1
theorem lM {w:World} {b:Nat} {e:TypeId} {v:Value} {l:List Int} {o:Obj} (ho:OX w 0 e v l) (h:w.heap[b]? = some o) (hne:∀cur,o ≠ .cells cur e (0,0)):b∉v.ownBlock.toList:=MM
theorem d9 {w:World} {e:TypeId} {size n b:Nat} {v:Value} {xs:List Value} (h:w.ownsRow 0 e size v n xs) (hb:v.ownBlock=some b):w.heap[b]? = some (.cells (match w.heap[b]? with | some (.cells cur _ _)=>cur | _=>#[]) e (0,0)):=by
 rcases h.2 with ⟨rfl,_⟩ | ⟨g,cap,cur,rfl,_,hg,_⟩
 ·simp [Value.ownBlock] at hb
 ·simp [Value.ownBlock] at hb;subst hb;rw [hg]
theorem LP {w:World} {b:Nat} {v:Value} {t:TypeId} (h:w.heap[b]? = some (.cells #[v] t (0,0))):NK w (some ⟨b,0,none⟩) 1 [v]:=by
 refine .inr ⟨_,rfl,λj u hj=>?_⟩
 match j,hj with
 | 0,hj =>
  rw [Addr.add_lit,ap h];simpa using hj
section
variable {w:World} {A D L:List Nat} {l d:Nat} {s:Wl} {k:Dk}
def gx (s:Wl) (k:Dk) (rec:List UInt8):Int×Wl×Dk :=
 if n8 s k then (10,lB s 10,k)
 else if 20000<rec.length then (2,s,k)
 else if k.room - (k.total:Int)<((12+rec.length:Nat):Int) then (9,lB s 9,k)
 else (0,{ lB s 0 with recs:=s.recs++[rec]},nw k (F.cM rec))
structure AddP (w w':World) (A D L:List Nat) (l d:Nat) (s':Wl) (k':Dk):Prop where
 ex:∃A' D' L',WD w' A' D' L' l d s' k'/\OY (D++L) (D'++L') w w'/\Ext A A' w/\∀b∈A,b∈A'
theorem WD.move_D {w':World} {D':List Nat} {k':Dk} (h:WD w A D L l d s k) (hk:O6 w' D' d k') (m:OY D D' w w'):WD w' (A++D') D' L l d s k':=by
 have he:Ext A (A++D') w:=λb hb=>by
  rcases aA.1 hb with hb | hb
  ·exact .inl hb
  ·exact (m.gr b hb).imp (h.dA b) id
 refine ⟨h.wl.keep m.only h.Vm.symm h.dA he,hk,m.Vm h.Vm h.wl.lt,λb hb=>by simp [hb],λb hb=>by simp [h.lA b hb],λb hb=>?_⟩;rcases aA.1 hb with hb | hb
 ·exact aK (h.alt b hb) m.only.size
 ·exact hk.lt b hb
theorem Only.trans' {S T:List Nat} {a b c:World} (h:Only S a b) (k:Only T b c) (hT:∀x∈T,x<a.heap.size->x∈S):Only S a c :=
 ⟨k.os.trans h.os,k.tape.trans h.tape,k.output.trans h.output,aF h.size k.size,λi hi hs=>(k.block i (aK hi h.size) (λhm=>hs (hT i hm hi))).trans (h.block i hi hs)⟩
theorem lw (recs:List (List UInt8)) (rec:List UInt8):dH (recs++[rec])=dH recs++[((F.aY (recs++[rec])).length:Int)]:=by
 unfold dH;rw [aE,List.length_singleton,dp,cy];congr 1
 ·refine kP (λi hi=>?_);have hlt:=eJ.1 hi;rw [cS az]
 ·simp only [bJ,iU];rw [bE bL]
theorem lu (recs:List (List UInt8)) (rec:List UInt8):(F.aY (recs++[rec])).length=(F.aY recs).length+(12+rec.length):=by
 rw [F.sk,aE];simp [F.aY,F.dG]
theorem IB {w w2 w4 W6 w8:World} {D3:List Nat} {k3:Dk} {us:List Value} {ar a5 a8:Option Addr} {cr c5 c8 ce:Nat} {ae:Option Addr} {v6:Value} {rec:List UInt8} {z:Int}
  (H:WD w A D L l d s k) (hb2:Below w.heap.size w w2) (M24:OY (D++L) (D3++L) w2 w4) (H4:WD w4 (A++D3) D3 L l d (lB s 0) k3)
  (hu:us.length=s.recs.length) (Qz:∀i,i<s.recs.length->Qi w4 (A++D3) (us.getD i undef) (s.recs.getD i []))
  (YC:∀b,(Value.slice ar s.recs.length cr).ownBlock=some b->b∈L) (WL:∀b,(Value.slice ae s.recs.length ce).ownBlock=some b->b∈L)
  (Vd:Only L w4 W6) (Ta:OX W6 0 3 (.slice a5 (s.recs.length+1) c5) (dH s.recs++[z])) (SK:∀b,(Value.slice a5 (s.recs.length+1) c5).ownBlock=some b->(Value.slice ae s.recs.length ce).ownBlock=some b\/w4.heap.size<=b)
  (hru6:W6.ownsRow 0 31 1 (.slice ar s.recs.length cr) s.recs.length us)
  (TG:w8.ownsRow 0 31 1 (.slice a8 (s.recs.length+1) c8) (s.recs.length+1) (us++[v6])) (hv8:OW w8 W6.heap.size 5 v6 rec)
  (VU:w8.heap[l]? = some (.cells #[.pointer (some ⟨d,0,none⟩),.int .i64 s.lives,.bool (s.done || !((0:Int)==0)),.int .i64 1,.slice ar s.recs.length cr,.slice a5 (s.recs.length+1) c5] 103 (0,0)))
  (RV:Only (Value.slice ar s.recs.length cr).ownBlock.toList W6 w8) (VW:∀b,(Value.slice a8 (s.recs.length+1) c8).ownBlock=some b->(Value.slice ar s.recs.length cr).ownBlock=some b\/W6.heap.size<=b)
  (hz:z=((F.aY (s.recs++[rec])).length:Int)) :
  AddP w (w8.setCell ⟨l,4,none⟩ (.slice a8 (s.recs.length+1) c8)) A D L l d { lB s 0 with recs:=s.recs++[rec]} k3:=by
 have o9:Only [l] w8 (w8.setCell ⟨l,4,none⟩ (.slice a8 (s.recs.length+1) c8)):=(Only.refl _ _).setCell bL _;have hlL:l∈L:=H4.wl.mem;have o48:Only L w4 w8:=Vd.trans (RV.mono (λb hb=>YC b Ek));have o49:Only L w4 (w8.setCell ⟨l,4,none⟩ (.slice a8 (s.recs.length+1) c8)):=o48.trans (o9.mono (by simpa using hlL));have hv5lt:∀b,(Value.slice a5 (s.recs.length+1) c5).ownBlock=some b->b<W6.heap.size:=λb hb=>(World.ownsRow.lt Ta b hb).2;have hv8lt:∀b,(Value.slice a8 (s.recs.length+1) c8).ownBlock=some b->b<w8.heap.size:=λb hb=>(World.ownsRow.lt TG b hb).2;have s46:=Vd.size;have s68:=RV.size;have s89:=o9.size;have s24:=M24.only.size;have s02:=hb2.size;have VS:∀b,b∈L++((Value.slice a5 (s.recs.length+1) c5).ownBlock.toList++(Value.slice a8 (s.recs.length+1) c8).ownBlock.toList)->b∈L\/w4.heap.size<=b:=by
  intro b hb;simp only [aA,eF] at hb;rcases hb with hb | hb | hb
  ·exact .inl hb
  ·exact (SK b hb).imp (WL b) id
  ·exact (VW b hb).imp (YC b) (λh=>aF s46 h)
 have hlt9:∀b,b∈L++((Value.slice a5 (s.recs.length+1) c5).ownBlock.toList++(Value.slice a8 (s.recs.length+1) c8).ownBlock.toList)->b<w8.heap.size:=by
  intro b hb;simp only [aA,eF] at hb;rcases hb with hb | hb | hb
  ·have:=H4.wl.lt b hb;omega
  ·have:=hv5lt b hb;omega
  ·exact hv8lt b hb
 have QG:Ext (A++D3) ((A++D3)++(L++((Value.slice a5 (s.recs.length+1) c5).ownBlock.toList++(Value.slice a8 (s.recs.length+1) c8).ownBlock.toList))) w4:=by
  intro b hb;rcases aA.1 hb with hb | hb
  ·exact .inl hb
  ·exact (VS b hb).imp (H4.lA b) id
 have ho8':=bR TG o9 (λb hb hm=>by
  have h1:=d9 TG hb;rw [aj.1 hm,VU] at h1;simp at h1)
 have h6a:OX w8 0 3 (.slice a5 (s.recs.length+1) c5) (dH s.recs++[z]):=bR Ta RV (λb hb hm=>by
  have h1:=d9 Ta hb;have h2:=d9 hru6 ud;rw [h1] at h2;simp at h2)
 have h6b:=bR h6a o9 (λb hb hm=>by
  have h1:=d9 h6a hb;rw [aj.1 hm,VU] at h1;simp at h1)
 have RY:Qi (w8.setCell ⟨l,4,none⟩ (.slice a8 (s.recs.length+1) c8)) ((A++D3)++(L++((Value.slice a5 (s.recs.length+1) c5).ownBlock.toList++(Value.slice a8 (s.recs.length+1) c8).ownBlock.toList))) v6 rec:=by
  have hv9:=bR (hv8.mono (aH _)) o9 (λb hb hm=>kA (hv8.mono (aH _)) VU bL KX);obtain ⟨ao,c,rfl,h1,h2,h3⟩:=jk hv8;obtain ⟨Wj,c',e,h4⟩:=OW.S9 (base:=0) hv9;cases e;refine ⟨ao,c,rfl,h4,h2,λp hp=>⟨λhm=>?_,aK (h3 p hp).2 s89⟩⟩;have Qv:=(h3 p hp).1;simp only [aA,eF] at hm;rcases hm with (hm | hm) | hm | hm | hm
  ·have:=H4.alt p.block (by simp [hm]);omega
  ·have:=H4.alt p.block (by simp [hm]);omega
  ·have:=H4.wl.lt p.block hm;omega
  ·have:=hv5lt p.block hm;omega
  ·have k1:=d9 TG hm;exact kA (hv8.mono (aH _)) k1 bL (by subst hp;simp [Value.ownBlock])
 refine ⟨(A++D3)++(L++((Value.slice a5 (s.recs.length+1) c5).ownBlock.toList++(Value.slice a8 (s.recs.length+1) c8).ownBlock.toList)),D3,L++((Value.slice a5 (s.recs.length+1) c5).ownBlock.toList++(Value.slice a8 (s.recs.length+1) c8).ownBlock.toList),⟨⟨⟨.slice a8 (s.recs.length+1) c8,.slice a5 (s.recs.length+1) c5,be VU 4 _,⟨⟨us++[v6],by simp [hu],by rw [show ({ lB s 0 with recs:=s.recs++[rec]}:Wl).recs.length=s.recs.length+1 by simp];exact ho8',λi hi=>?_⟩,?_,λb hb=>by simp [hb],λb hb=>by simp [hb]⟩⟩,by simp [hlL],λb hb=>aK (hlt9 b hb) s89⟩,H4.dk.keep o49 H4.Vm,?_,λb hb=>by simp [hb],λb hb=>aR _ hb,λb hb=>?_⟩,?_,?_,λb hb=>by simp [hb]⟩
 ·have hi':i<s.recs.length+1:=by simpa using hi
  by_cases hlt:i<s.recs.length
  ·have h1:=(Qz i hlt).step o49 H4.lA QG;have e1:(us++[v6]).getD i undef=us.getD i undef:=by simp [List.getD,dN (show i<us.length by omega)]
   have e2:(s.recs++[rec]).getD i []=s.recs.getD i []:=by simp [List.getD,dN hlt]
   show Qi _ _ ((us++[v6]).getD i undef) ((s.recs++[rec]).getD i []);rw [e1,e2];exact h1
  ·obtain rfl:i=s.recs.length:=by omega
   have e1:(us++[v6]).getD s.recs.length undef=v6:=by rw [<-hu];simp [List.getD]
   have e2:(s.recs++[rec]).getD s.recs.length []=rec:=by simp [List.getD]
   show Qi _ _ ((us++[v6]).getD s.recs.length undef) ((s.recs++[rec]).getD s.recs.length []);rw [e1,e2];exact RY
 ·show OX _ 0 3 _ (dH (s.recs++[rec]));rw [lw,<-hz];exact h6b
 ·intro b hb hm;rcases VS b hm with h1 | h1
  ·exact H4.Vm b hb h1
  ·have:=H4.dk.lt b hb;omega
 ·rcases aA.1 hb with hb | hb
  ·have:=H4.alt b hb;omega
  ·exact aK (hlt9 b hb) s89
 ·refine ⟨((Only.OL hb2 (D++L)).trans M24.only).trans' o49 ?_,λb hb=>?_,λb hb=>?_⟩
  ·intro b hb hlt;simp [hb]
  ·rcases aA.1 hb with hb | hb
   ·rcases M24.gr b uc with h1 | h1
    ·exact .inl h1
    ·exact .inr (aF s02 h1)
   ·rcases VS b hb with h1 | h1
    ·exact .inl (by simp [h1])
    ·right;omega
  ·rcases aA.1 hb with hb | hb
   ·rcases aA.1 (M24.sub b uc) with h1 | h1
    ·simp [h1]
    ·simp [h1]
   ·simp [hb]
 ·intro b hb;rcases aA.1 hb with hb | hb
  ·rcases aA.1 hb with hb | hb
   ·exact .inl hb
   ·rcases M24.gr b uc with h1 | h1
    ·rcases aA.1 h1 with h1 | h1
     ·exact .inl (H.dA b h1)
     ·exact .inl (H.lA b h1)
    ·exact .inr (aF s02 h1)
  ·rcases VS b hb with h1 | h1
   ·exact .inl (H.lA b h1)
   ·right;omega
theorem IC (h:WD w A D L l d s k) (ao:Option Addr) (n c:Nat) (rec:List UInt8) (Q4:Qi w A (.slice ao n c) rec) (Y3:s.recs.length<=1000000) (hroom:k.room<=1048576) (h0:(k.total:Int)<=k.room) (Rh:(F.aY s.recs).length<=1048576) (hn:n<=100000) :
  Calls Tryz.prog 107 #[.pointer (some ⟨l,0,none⟩),.slice ao n c] w λe w'=>e = .returned (.int .i64 (gx s k rec).1)/\AddP w w' A D L l d (gx s k rec).2.1 (gx s k rec).2.2:=by
 obtain ⟨hi,hav⟩:Pg w ao n c rec/\∀p,ao=some p->p.block∉A/\p.block<w.heap.size:=by
  obtain ⟨Wj,c',e,h1,_,h3⟩:=Q4;cases e;exact ⟨h1,h3⟩
 clear Q4;have HAV:=af hav;clear hav;have H:=af h;have HI:=af hi;have Qp:rec.length=n:=hi.len;have U1:=af (t8 h.wl h.dk);have hc0:w.cell? ⟨l,0,none⟩=some (.pointer (some ⟨d,0,none⟩)):=I0;clear h hi;cases QF:n8 s k with
 | true =>
  rw [QF] at U1;have HA:Hid (gx s k rec=(10,lB s 10,k)):=af (by unfold gx;rw [ay QF]);clear QF;go_enter Tryz.func107,Tryz.ntmps107
  go_wp2_with fail
  refine U1.out.mono ?_;rintro e w1 ⟨rfl,q,rfl⟩;have H1:=af (H.out.drewN q);have Sm:Hid (Only (D++L) w (w.drewN q)):=af ((Only.refl _ _).drewN q);generalize w.drewN q=W at *;go_wp2_with fail
  refine (kg H1.out.wl H1.out.lA 10).mono ?_;rintro e w2 ⟨rfl,hw2,OZ⟩;have H2:=af (H1.out.TC hw2 OZ);have QL:=af (Sm.out.trans (OZ.mono (λb hb=>by simp [hb])));clear hw2 OZ;go_wp2_with fail
  go_ret
  rw [HA.out];exact ⟨rfl,A,D,L,H2.out,OY.Qg QL.out,Ext.refl _ _,λb hb=>hb⟩
 | false =>
  rw [QF] at U1;have HKO:=af (vz QF);have Zm:Hid (¬n8 s k=true):=af (by rw [QF];decide);clear QF;by_cases TH:20000<n
  ·have HA:Hid (gx s k rec=(2,s,k)):=af (by unfold gx;rw [am Zm.out,ay az]);clear Qp;go_enter Tryz.func107,Tryz.ntmps107
   go_wp2_with fail
   refine U1.out.mono ?_;rintro e w1 ⟨rfl,q,rfl⟩;have H1:=af (H.out.drewN q);have Sm:Hid (Only (D++L) w (w.drewN q)):=af ((Only.refl _ _).drewN q);generalize w.drewN q=W at *;go_wp2_with fail
   refine (F.Dv none 0 0 ao n c W TH az).mono ?_;rintro e w2 ⟨rfl,rfl⟩;go_wp2_with fail
   go_ret
   rw [HA.out];exact ⟨rfl,A,D,L,H1.out,OY.Qg Sm.out,Ext.refl _ _,λb hb=>hb⟩
  ·have Z0:Hid ((F.cM rec).length=12+n):=af (by rw [F.dG,Qp]);by_cases Qq:k.room - (k.total:Int)<((12+n:Nat):Int)
   ·have HA:Hid (gx s k rec=(9,lB s 9,k)):=af (by unfold gx;rw [am Zm.out,am az,ay (by rw [Qp];exact Qq)]);have HFU:=af Qq;have UQ:=af TH;clear Qq TH Qp;go_enter Tryz.func107,Tryz.ntmps107
    go_wp2_with fail
    refine U1.out.mono ?_;rintro e w1 ⟨rfl,q,rfl⟩;have H1:=af (H.out.drewN q);have Sm:Hid (Only (D++L) w (w.drewN q)):=af ((Only.refl _ _).drewN q);have HI1:Hid (Pg (w.drewN q) ao n c rec):=af (HI.out.below ⟨rfl,rfl,rfl,ah _,λ_ _=>rfl⟩);have hc1:(w.drewN q).cell? ⟨l,0,none⟩=some (.pointer (some ⟨d,0,none⟩)):=hc0;clear hc0;generalize w.drewN q=W at *;go_wp2_with fail
    refine (F.xS none 0 0 [] ao n c rec W (hZ W) HI1.out az (by have:=UQ.out;omega)).mono ?_;rintro e w2 ⟨v2,rfl,OZ,hb2⟩;rw [cC] at OZ;obtain ⟨a2,c2,e2,_⟩:=OZ.S9;rw [Z0.out] at e2;subst e2;have H2:=af (H1.out.below hb2);have QL:=af (Sm.out.trans (Only.OL hb2 (D++L)));have hc2:=cell_later hb2 hc1;clear OZ hb2 hc1;go_wp2_with fail
    refine (xe H2.out.dk HKO.out gf lm a2 (12+n) c2 HFU.out az hroom h0).mono ?_;rintro e w3 ⟨rfl,hb3⟩;have H3:=af (H2.out.below hb3);have S5:=af (QL.out.trans (Only.OL hb3 (D++L)));clear hb3 hc2;go_wp2_with fail
    refine (kg H3.out.wl H3.out.lA 9).mono ?_;rintro e w4 ⟨rfl,hw4,Rb⟩;have H4:=af (H3.out.TC hw4 Rb);have HO4:=af (S5.out.trans (Rb.mono (λb hb=>by simp [hb])));clear hw4 Rb;go_wp2_with fail
    go_ret
    rw [HA.out];exact ⟨rfl,A,D,L,H4.out,OY.Qg HO4.out,Ext.refl _ _,λb hb=>hb⟩
   ·have HA:Hid (gx s k rec=(0,{ lB s 0 with recs:=s.recs++[rec]},nw k (F.cM rec))):=af (by unfold gx;rw [am Zm.out,am az,am (by rw [Qp];exact Qq)]);have HFU:=af Qq;have UQ:=af TH;clear Qq TH Qp;go_enter Tryz.func107,Tryz.ntmps107
    go_wp2_with fail
    refine U1.out.mono ?_;rintro e w1 ⟨rfl,q,rfl⟩;have H1:=af (H.out.drewN q);have Sm:Hid (Below w.heap.size w (w.drewN q)):=af ⟨rfl,rfl,rfl,ah _,λ_ _=>rfl⟩;have HI1:Hid (Pg (w.drewN q) ao n c rec):=af (HI.out.below Sm.out);have hc1:(w.drewN q).cell? ⟨l,0,none⟩=some (.pointer (some ⟨d,0,none⟩)):=hc0;clear hc0;generalize w.drewN q=W at *;go_wp2_with fail
    refine (F.xS none 0 0 [] ao n c rec W (hZ W) HI1.out az (by have:=UQ.out;omega)).mono ?_;rintro e w2 ⟨v2,rfl,OZ,hb2⟩;rw [cC] at OZ;obtain ⟨a2,c2,e2,Tw⟩:=OZ.S9;rw [Z0.out] at e2 Tw;subst e2;have H2:=af (H1.out.below hb2);have QL:=af (Sm.out.trans (hb2.mono Sm.out.size));have HI2:=af Tw;have HR2:=af (HI1.out.below hb2);have hc2:=cell_later hb2 hc1;clear OZ hb2 hc1 Tw;go_wp2_with fail
    refine (Cc H2.out.dk HKO.out a2 (12+n) c2 (F.cM rec) HI2.out (by have:=HFU.out;omega) hroom).mono ?_;rintro e w3 ⟨D3,rfl,hd3,m3⟩;have H3:=af (H2.out.move_D hd3 m3);have Rz:=af m3;have HR3:Hid (Pg w3 ao n c rec):=af (j6 HR2.out m3.only (λb off i hb hm=>(HAV.out _ hb.1).1 (H.out.dA b hm)));clear hd3 m3 hc2;go_wp2_with fail
    refine (kg H3.out.wl H3.out.lA 0).mono ?_;rintro e w4 ⟨rfl,hw4,Rb⟩;have H4:=af (H3.out.TC hw4 Rb);have HO4:=af Rb;clear hw4 Rb;go_upto_region 9 with (fail)
    have HR4:Hid (Pg w4 ao n c rec):=af (j6 HR3.out HO4.out (λb off i hb hm=>(HAV.out _ hb.1).1 (H.out.lA b hm)));obtain ⟨⟨vr,ve,k1,k2⟩,k3,k4⟩:=H4.out.wl;obtain ⟨⟨us,hu,TF,Qz⟩,hre,YC,WL⟩:=k2;obtain ⟨ar,cr,e1,_,_⟩:=ej TF;subst e1;obtain ⟨ae,ce,e2,_⟩:=hre.Xr;rw [gK] at e2;subst e2;have HEV0:Hid (OX w4.drew 0 3 (.slice ae s.recs.length ce) (dH s.recs)):=af hre;have h9:=CT (H4.out.wl.below (bK w4)) s.recs.length (ah _) (show (lB s 0).recs.length<=1000000000 from aF Y3 dZ);have e9:(lB s 0).recs.take s.recs.length=s.recs:=bW;rw [e9] at h9;have hlen:(dH s.recs).length+1<=17592186044416:=by rw [gK];omega
    have HRU:=af (And.intro hu (And.intro TF (And.intro Qz (And.intro YC WL))));have HK3:=af k3;have Ya:w4.drew.heap[l]? = some (.cells #[.pointer (some ⟨d,0,none⟩),.int .i64 s.lives,.bool (s.done || !((0:Int)==0)),.int .i64 1,.slice ar s.recs.length cr,.slice ae s.recs.length ce] 103 (0,0)):=k1;have HLW:=af Ya;clear k1 k3 k4 hu TF Qz hre YC WL e9 Ya;generalize hm9:12+n=m9 at *;generalize hfl9:(F.aY s.recs).length=fl at *;have HM9:=af hm9;have HFL9:=af hfl9;have hm9b:m9<=200000:=az;clear hm9 hfl9;have XR:=af h9;clear h9;have q1:IntKind.i64.wrap ((fl:Int)+(m9:Int))=(fl:Int)+(m9:Int):=IntWalk.i64_in _ az;go_cut [] (λwx=>∃a5 c5 w5,wx=w5.setCell ⟨l,5,none⟩ (.slice a5 (s.recs.length+1) c5)/\OX w5 0 3 (.slice a5 (s.recs.length+1) c5) (dH s.recs++[(fl:Int)+(m9:Int)])/\Only (Value.slice ae s.recs.length ce).ownBlock.toList w4.drew w5/\∀k,(Value.slice a5 (s.recs.length+1) c5).ownBlock=some k->(Value.slice ae s.recs.length ce).ownBlock=some k\/w4.drew.heap.size<=k)
    case first =>
     refine wp_region_held_drew (S:=λw'=>w'.cell? ⟨l,4,none⟩=some (.slice ar s.recs.length cr)) dW ((ap HLW.out 4).trans rfl) (λaD=>?_);refine aJ 0 ?_;refine aJ 1 ?_;refine aJ 2 ?_;refine aJ 3 ?_;refine aJ 5 ?_;refine aJ 6 ?_;refine aJ 7 ?_;refine aJ 8 ?_;refine aJ 9 ?_;refine aJ 10 ?_;refine aJ 12 ?_;refine aJ 13 ?_;generalize w4.drew=V at *;refine mf 4 11 (λK hK=>?_) λK hK=>?_
     ·have hy:V.cell? ⟨l,5,none⟩=some (.slice ae s.recs.length ce):=(ap HLW.out 5).trans rfl;go_simp
      clear hy;refine hK.out _ _ aD (λaD=>?_);clear hK K;refine bX ?_;refine dh 11 λK hK=>?_;go_simp
      refine XR.out.mono ?_;rintro e wq ⟨rfl,rfl⟩;go_wp2_with fail
      refine hK.out _ _ aD (λaD=>?_);clear hK K;refine bX ?_;refine aJ 14 ?_;exact Cp
     ·go_simp
      refine XR.out.mono ?_;rintro e wq ⟨rfl,rfl⟩;go_wp2_with fail
      refine hK.out _ _ aD (λaD=>?_);clear hK K;refine bX ?_;refine aJ 14 ?_;refine mf 4 15 (λK hK=>?_) λK hK=>?_
      ·have hy:V.cell? ⟨l,5,none⟩=some (.slice ae s.recs.length ce):=(ap HLW.out 5).trans rfl;go_simp
       clear hy;refine hK.out _ _ aD (λaD=>?_);clear hK K;refine bX ?_;exact Cp
      ·go_simp
       have h1:=bD HLW.out (.cells #[.int .i64 ((fl:Int)+(m9:Int))] 3);have h2:=aV V (.cells #[.int .i64 ((fl:Int)+(m9:Int))] 3);have h3:OX (V.alloc (.cells #[.int .i64 ((fl:Int)+(m9:Int))] 3)) 0 3 (.slice ae s.recs.length ce) (dH s.recs):=HEV0.out.alloc _;have Sx:Below V.heap.size V (V.alloc (.cells #[.int .i64 ((fl:Int)+(m9:Int))] 3)):=(aG _ _).alloc (ah _) _;refine hK.out _ _ ((ap h1 4).trans rfl) (λaD=>?_);clear hK K;refine bX ?_;generalize V.alloc (.cells #[.int .i64 ((fl:Int)+(m9:Int))] 3)=v1 at *;have HL1:=af h1;have Ri:=af h2;have Zt:=af h3;have PK:=af Sx;clear h1 h2 h3 Sx;refine dh 4 λK hK=>?_;have hy:v1.cell? ⟨l,5,none⟩=some (.slice ae s.recs.length ce):=(ap HL1.out 5).trans rfl;go_simp
       clear hy;refine hK.out _ _ aD (λaD=>?_);clear hK K;refine bX ?_;exact Cq
    case rest =>
     obtain ⟨a5,c5,w5,rfl,PS,Rl,SK⟩:=hcut;have o5:Only [l] w5 (w5.setCell ⟨l,5,none⟩ (.slice a5 (s.recs.length+1) c5)):=(Only.refl _ _).setCell bL _;have ZN:=Rl.keeps HLW.out (lM HEV0.out HLW.out bL);have hl6:=be ZN 5 (.slice a5 (s.recs.length+1) c5);have Ta:OX (w5.setCell ⟨l,5,none⟩ (.slice a5 (s.recs.length+1) c5)) 0 3 (.slice a5 (s.recs.length+1) c5) (dH s.recs++[(fl:Int)+(m9:Int)]):=bR PS o5 (λb hb hm=>lM PS ZN bL KX);have VN:w4.heap.size<=(w5.setCell ⟨l,5,none⟩ (.slice a5 (s.recs.length+1) c5)).heap.size:=aF Rl.size o5.size;have HL6:=af hl6;have HO6:=af Ta;have Wx:=af SK;have HVE:∀k,(Value.slice ae s.recs.length ce).ownBlock=some k->k∈L:=HRU.out.2.2.2.2;have Vd:Only L w4 (w5.setCell ⟨l,5,none⟩ (.slice a5 (s.recs.length+1) c5)):=((Only.OL (bK w4) L).trans (Rl.mono (λb hb=>HVE b Ek))).trans (o5.mono (by simpa using HK3.out));have HON4:=af Vd;have HR6:Hid (Pg (w5.setCell ⟨l,5,none⟩ (.slice a5 (s.recs.length+1) c5)) ao n c rec):=af (j6 HR4.out Vd (λb off i hb hm=>(HAV.out _ hb.1).1 (H.out.lA b hm)));have hru6:(w5.setCell ⟨l,5,none⟩ (.slice a5 (s.recs.length+1) c5)).ownsRow 0 31 1 (.slice ar s.recs.length cr) s.recs.length us:=by
       have r1:w4.drew.ownsRow 0 31 1 (.slice ar s.recs.length cr) s.recs.length us:=HRU.out.2.1;have r2:=bR r1 Rl (λb hb hm=>lM HEV0.out (d9 r1 hb) bL hm);exact bR r2 o5 (λb hb hm=>by
         have r3:=d9 r2 hb;rw [aj.1 hm,ZN] at r3;simp at r3)
     have HRU6:=af hru6;have HSZ5:=af VN;clear o5 ZN hl6 Ta VN Vd hru6 PS Rl SK HVE;generalize (w5.setCell ⟨l,5,none⟩ (.slice a5 (s.recs.length+1) c5))=W6 at *;go_upto_region 10 with (fail)
     have ZZ:Hid (W6.drew.heap[l]? = some (.cells #[.pointer (some ⟨d,0,none⟩),.int .i64 s.lives,.bool (s.done || !((0:Int)==0)),.int .i64 1,.slice ar s.recs.length cr,.slice a5 (s.recs.length+1) c5] 103 (0,0))):=af HL6.out;have HRV:Hid (Pg W6.drew ao n c rec):=af (HR6.out.below (bK W6));have HRUV:Hid (W6.drew.ownsRow 0 31 1 (.slice ar s.recs.length cr) s.recs.length us):=af HRU6.out;have Ww:Hid (rec.length=n):=af HR6.out.len;obtain ⟨i0,Q4⟩:=info_parts F.EY;have HI0:=af Q4;clear Q4;go_cut [] (λwx=>∃a8 c8 v6 w8,wx=w8.setCell ⟨l,4,none⟩ (.slice a8 (s.recs.length+1) c8)/\w8.ownsRow 0 31 1 (.slice a8 (s.recs.length+1) c8) (s.recs.length+1) (us++[v6])/\OW w8 W6.drew.heap.size 5 v6 rec/\w8.heap[l]? = some (.cells #[.pointer (some ⟨d,0,none⟩),.int .i64 s.lives,.bool (s.done || !((0:Int)==0)),.int .i64 1,.slice ar s.recs.length cr,.slice a5 (s.recs.length+1) c5] 103 (0,0))/\Only (Value.slice ar s.recs.length cr).ownBlock.toList W6.drew w8/\∀k,(Value.slice a8 (s.recs.length+1) c8).ownBlock=some k->(Value.slice ar s.recs.length cr).ownBlock=some k\/W6.drew.heap.size<=k)
     case first =>
       refine wp_region_held_drew (S:=λ_=>True) dW trivial (λaD=>?_);refine aJ 0 ?_;refine aJ 1 ?_;refine aJ 2 ?_;refine aJ 3 ?_;refine aJ 5 ?_;generalize W6.drew=V at *;refine mf 4 6 (λK hK=>?_) λK hK=>?_
       ·have hy:V.cell? ⟨l,4,none⟩=some (.slice ar s.recs.length cr):=(ap ZZ.out 4).trans rfl;go_simp
        clear hy;refine hK.out _ _ trivial (λaD=>?_);clear hK K;refine bX ?_;refine dh 6 λK hK=>?_;go_simp
        refine (F.dV ao n c rec _ HRV.out az).mono ?_;rintro e w6 ⟨v6,rfl,Ta,SE⟩;obtain ⟨a6,c6,e6,_⟩:=Ta.S9;rw [Ww.out] at e6;subst e6;have TQ:=af SE;have HO6b:=af Ta;have HL6b:=af (bA SE (bg ZZ.out) ZZ.out);have Zj:=af (bR HRUV.out (Only.OL SE []) (λb _=>by simp));clear Ta SE;go_wp2_with fail
        exact Cn
       ·go_simp
        refine (F.dV ao n c rec _ HRV.out az).mono ?_;rintro e w6 ⟨v6,rfl,Ta,SE⟩;obtain ⟨a6,c6,e6,_⟩:=Ta.S9;rw [Ww.out] at e6;subst e6;have TQ:=af SE;have HO6b:=af Ta;have HL6b:=af (bA SE (bg ZZ.out) ZZ.out);have Zj:=af (bR HRUV.out (Only.OL SE []) (λb _=>by simp));clear Ta SE;go_wp2_with fail
        refine hK.out _ _ trivial (λaD=>?_);clear hK K;refine bX ?_;refine mf 4 7 (λK hK=>?_) λK hK=>?_
        ·have hy:w6.cell? ⟨l,4,none⟩=some (.slice ar s.recs.length cr):=(ap HL6b.out 4).trans rfl;go_simp
         clear hy;exact Cn
        ·go_simp
         have h1:=bD HL6b.out (.cells #[.slice a6 n c6] 31);have h2:=aV w6 (.cells #[.slice a6 n c6] 31);have h3:=World.ownsRow.alloc Zj.out (.cells #[.slice a6 n c6] 31);have h4:=HO6b.out.alloc (.cells #[.slice a6 n c6] 31);have Yf:Below V.heap.size V (w6.alloc (.cells #[.slice a6 n c6] 31)):=TQ.out.alloc TQ.out.size _;refine hK.out _ _ trivial (λaD=>?_);clear hK K;refine bX ?_;generalize w6.alloc (.cells #[.slice a6 n c6] 31)=v7 at *;generalize w6.heap.size=X7 at *;have HL7:=af h1;have HN7:=af h2;have HRU7:=af h3;have HO7:=af h4;have ZA:=af Yf;clear h1 h2 h3 h4 Yf;refine dh 4 λK hK=>?_;have hy:v7.cell? ⟨l,4,none⟩=some (.slice ar s.recs.length cr):=(ap HL7.out 4).trans rfl;go_simp
         clear hy;refine hK.out _ _ trivial (λaD=>?_);clear hK K;refine bX ?_;exact Co
     case rest =>
       obtain ⟨a8,c8,v6,w8,rfl,TG,hv8,VU,RV,VW⟩:=hcut;have hz:((fl:Int)+(m9:Int))=((F.aY (s.recs++[rec])).length:Int):=by
         rw [lu,HFL9.out,Ww.out,HM9.out];omega
       have M24:OY (D++L) (D3++L) w2 w4:=by
         have m1:OY (D++L) (D3++L) w2 w3:=⟨Rz.out.only.mono (λb hb=>by simp [hb]),λb hb=>by
          rcases aA.1 hb with hb | hb
          ·exact (Rz.out.gr b hb).imp (λh=>by simp [h]) id
          ·exact .inl uc,λb hb=>by
          rcases aA.1 hb with hb | hb
          ·simp [Rz.out.sub b hb]
          ·simp [hb]⟩
         exact m1.trans (OY.Qg (HO4.out.mono (λb hb=>by simp [hb])))
       have Ro:=IB (w8:=w8) (W6:=W6) H.out QL.out M24 H4.out HRU.out.1 HRU.out.2.2.1 HRU.out.2.2.2.1 HRU.out.2.2.2.2 HON4.out HO6.out Wx.out HRU6.out TG hv8 VU (show Only _ W6 w8 from ⟨RV.os,RV.tape,RV.output,RV.size,RV.block⟩) VW hz;have P7:=af Ro;clear Ro M24 hz TG hv8 VU RV VW;go_wp2_with fail
       go_ret
       rw [HA.out];exact ⟨rfl,P7.out⟩
end
structure Po where
 Ow:Int
 bs:List UInt8
structure OM where
 OD:Int
 dst:Int
 kind:Int
 N:List Int
 B:List (List UInt8)
structure Rp where
 own:Nat
 n:Nat
 wl:Wl
 lives:Int
 done:Bool
 Ow:Int
 OC:Int
 Oz:List Po
 agreed:Nat
 many:Nat
 Oy:Bool
 OB:List Bool
 next:List Nat
 OE:List Nat
 Ox:Nat
 OA:Nat
 heard:List (Int×Int×Int)
def eG (s:Rp) (k:Dk):Bool:=s.done||(k.off || !(k.lives==s.lives))
def bw (s:Rp) (k:Dk):Rp:={ s with done:=eG s k }
def bQ (s:Rp) (k:Dk) (b:List UInt8):Rp×Dk :=
 if s.done then (s,k) else ({ s with wl:=(gx s.wl k b).2.1,done := !((gx s.wl k b).1==0)},(gx s.wl k b).2.2)
def cO (s:Rp) (k:Dk):Rp×Dk :=
 if s.done then (s,k) else ({ s with wl:=(gX s.wl k).2.1,done := !((gX s.wl k).1==0)},(gX s.wl k).2.2)
def ez (Ow who:Int):List UInt8:=kL [1,Ow,who]
def dY (place:Nat) (x:Po):List UInt8:=kL [2,(place:Int),x.Ow]++(iy (x.bs.length:Int)++x.bs)
def bB (s:Rp) (k:Dk) (Ow who:Int):Bool×Rp×Dk :=
 let p:=bQ s k (ez Ow who)
 if p.1.done then (false,p.1,p.2) else
 let q:=cO p.1 p.2
 if q.1.done then (false,q.1,q.2) else
 (true,{ q.1 with Oy:=q.1.Oy && !decide (q.1.Ow<Ow),Ow:=Ow,OC:=who },q.2)
def cR (s:Rp) (k:Dk) (place:Nat) (x:Po):Bool×Rp×Dk :=
 let p:=bQ s k (dY place x)
 if p.1.done then (false,p.1,p.2) else (true,{ p.1 with Oz:=p.1.Oz.take place++[x]},p.2)
def gt (s:Rp) (k:Dk) (x:Po):Bool×Rp×Dk :=
 let p:=cR s k s.Oz.length x
 if p.1 then (let q:=cO p.2.1 p.2.2;(!q.1.done,q.1,q.2)) else p
def bV (l:List Po) (n:Nat):Int:=if n=0 then 0 else ((l.map Po.Ow).getD (n - 1) 0)
def kO (s:Rp) (n:Nat):Bool:=decide (s.n<2*n)
def recs (l:List Po):List (List UInt8):=(l.filter λx => !x.bs.isEmpty).map Po.bs
def cI (s:Rp) (n:Nat):Rp:=if s.agreed<n then { s with agreed:=n,many:=s.many+(recs ((s.Oz.take n).drop s.agreed)).length } else s
def jC (s:Rp):Nat:=((s.Oz.drop s.agreed).filter λx=>x.Ow==s.Ow && !x.bs.isEmpty).length
def dQ (s:Rp) (dst kind:Int) (N:List Int):OM:=⟨(s.own:Int),dst,kind,N,[]⟩
def dB (s:Rp) (f:Nat->OM):List OM:=((List.range s.n).filter λi=>i != s.own).map f
def cF (s:Rp) (dst:Nat):OM :=
 let from_:=s.next.getD dst 0
 let batch:=(s.Oz.drop from_).take 20
 ⟨(s.own:Int),(dst:Int),3,[s.Ow,(from_:Int),bV s.Oz from_,(s.agreed:Int)]++batch.map Po.Ow,batch.map Po.bs⟩
def br (s:Rp) (kind:Int) (dst:Nat):OM:=dQ s dst kind [s.Ow,(s.Oz.length:Int),bV s.Oz s.Oz.length]
def fI (l:List Nat) (k:Nat):Nat:=(l.filter λm=>decide (k<=m)).length
def OQ (s:Rp):Nat->Option Nat
 | 0=>none
 | k+1=>if s.agreed<k+1/\bV s.Oz (k+1)=s.Ow then (if kO s (fI s.OE (k+1)) then some (k+1) else OQ s k) else none
def bZ (s:Rp):Bool×Rp :=
 let s1:={ s with OE:=s.OE.set s.own s.Oz.length }
 match OQ s1 s.Oz.length with
 | some k=>(true,cI s1 k)
 | none=>(false,s1)
def gI (s:Rp):Bool:=kO s (s.OB.filter id).length
def hJ (s:Rp) (k:Dk):List OM×Rp×Dk :=
 let s1:={ s with Oy:=true,next:=List.replicate s.n s.Oz.length,OE:=List.replicate s.n 0 }
 let p:=gt s1 k ⟨s1.Ow,[]⟩
 if p.1 then (let s2:=(bZ p.2.1).2;(dB s2 (cF s2),s2,p.2.2)) else ([],p.2)
def gZ (s:Rp) (k:Dk):List OM×Rp×Dk :=
 if 1099511627776<=s.Ow then ([],s,k) else
 let p:=bB s k (s.Ow+1) (s.own:Int)
 if p.1 then
  let s1:={ p.2.1 with Ox:=0,OB:=(List.replicate s.n false).set s.own true }
  if gI s1 then hJ s1 p.2.2 else (dB s1 (br s1 1),s1,p.2.2)
 else ([],p.2)
def Qs (s:Rp) (i:Nat) (x:Int×Int×Int):Bool :=
 !(x.1==0||decide (4<(s.OA:Int) - x.1)) &&
 (decide (bV s.Oz s.Oz.length<x.2.2)||(x.2.2==bV s.Oz s.Oz.length&&(decide ((s.Oz.length:Int)<x.2.1)||(x.2.1==(s.Oz.length:Int)&&decide (i<s.own)))))
def lC (s:Rp):Bool:=(List.range s.heard.length).all λi => !Qs s i (s.heard.getD i (0,0,0))
def eM (s0:Rp) (k:Dk):List OM×Rp×Dk :=
 let s:=bw s0 k
 if s.done then ([],s,k) else
 let s1:={ s with OA:=s.OA+1 }
 if s1.Oy then (dB s1 (cF s1),s1,k) else
 let s2:={ s1 with Ox:=s1.Ox+1 }
 if 8<=s2.Ox/\lC s2=true then gZ s2 k
 else if 4<=s2.Ox then (dB s2 (br s2 5),s2,k)
 else ([],s2,k)
def bF (s0:Rp) (k:Dk) (rec:List UInt8):List OM×Int×Rp×Dk :=
 if rec.length=0 then ([],1,s0,k) else if 8000<rec.length then ([],2,s0,k) else
 let s:=bw s0 k
 if s.done then ([],10,s,k) else if !s.Oy then ([],15,s,k) else
 if 200<=jC s\/2000<=s.many then ([],9,s,k) else
 let p:=gt s k ⟨s.Ow,rec⟩
 if p.1 then (let s2:=(bZ p.2.1).2;(dB s2 (cF s2),0,s2,p.2.2)) else ([],10,p.2)
def eX (s:Rp) (k:Dk) (m:OM):List OM×Rp×Dk :=
 if m.N.length=3 then
  let own:=bV s.Oz s.Oz.length
  let behind:=decide (own<m.N.getD 2 0)||(m.N.getD 2 0==own&&decide ((s.Oz.length:Int)<=m.N.getD 1 0))
  let yes:=(m.N.getD 0 0==s.Ow)&&behind&&(s.OC == -1||s.OC==m.OD)
  if yes then
   if s.OC == -1 then
    let p:=bB s k s.Ow m.OD
    if p.1 then (let s1:={ p.2.1 with Ox:=0 };([dQ s1 m.OD 2 [s1.Ow,1]],s1,p.2.2)) else ([],p.2)
   else (let s1:={ s with Ox:=0 };([dQ s1 m.OD 2 [s1.Ow,1]],s1,k))
  else ([dQ s m.OD 2 [s.Ow,0]],s,k)
 else ([],s,k)
def fS (s:Rp) (k:Dk) (m:OM):List OM×Rp×Dk :=
 if s.Oy || !(m.N.getD 0 0==s.Ow) || !(s.OC==(s.own:Int)) || !(m.N.getD 1 0==1) then ([],s,k) else
 let s1:={ s with OB:=s.OB.set m.OD.toNat true }
 if gI s1 then hJ s1 k else ([],s1,k)
def fN (s:Rp) (from_ Ow:Int):Bool:=decide (from_<=(s.Oz.length:Int))&&(bV s.Oz from_.toNat==Ow)
def bH (from_:Nat):List (Int×List UInt8)->Nat->Rp->Dk->Bool×Rp×Dk
 | [],_,s,k=>(true,s,k)
 | (t,rec)::l,i,s,k =>
  if from_+i<s.Oz.length/\(s.Oz.map Po.Ow).getD (from_+i) 0=t then bH from_ l (i+1) s k
  else if 8000<rec.length\/t<1\/s.Ow<t\/from_+i<s.agreed then (false,s,k)
  else
   let p:=cR s k (from_+i) ⟨t,rec⟩
   if p.1 then bH from_ l (i+1) p.2.1 p.2.2 else (false,p.2)
def eA (s:Rp) (k:Dk) (m:OM):List OM×Rp×Dk :=
 if !(m.N.length==4+m.B.length)||decide (m.N.getD 1 0<0)||(m.N.getD 0 0==s.Ow&&s.Oy) then ([],s,k) else
 if m.N.getD 0 0<s.Ow then ([dQ s m.OD 4 [s.Ow,0,0]],s,k) else
 let s1:={ s with Ox:=0 }
 if fN s1 (m.N.getD 1 0) (m.N.getD 2 0) then
  let from_:=(m.N.getD 1 0).toNat
  let p:=bH from_ ((m.N.drop 4).zip m.B) 0 s1 k
  if p.1 then
   let q:=if m.B.length=0 then p.2 else cO p.2.1 p.2.2
   if 0<m.B.length/\q.1.done=true then ([],q) else
   let s2:=cI q.1 (min (m.N.getD 3 0) ((from_+m.B.length:Nat):Int)).toNat
   ([dQ s2 m.OD 4 [s2.Ow,1,((from_+m.B.length:Nat):Int)]],s2,q.2)
  else ([],p.2)
 else ([dQ s1 m.OD 4 [s1.Ow,0,min (s1.Oz.length:Int) (max (m.N.getD 1 0 - 1) 0)]],s1,k)
def cG (s:Rp) (m:OM):List OM×Rp :=
 if !s.Oy || !(m.N.getD 0 0==s.Ow) || !(m.N.length==3)||decide (m.N.getD 2 0<0)||decide ((s.Oz.length:Int)<m.N.getD 2 0) then ([],s) else
 let who:=m.OD.toNat
 let k:=(m.N.getD 2 0).toNat
 if m.N.getD 1 0=0 then
  if s.next.getD who 0<=k then ([],s) else
  let s1:={ s with next:=s.next.set who (max k (s.OE.getD who 0))}
  ([cF s1 who],s1)
 else if k<=s.OE.getD who 0 then ([],s) else
 let s1:={ s with OE:=s.OE.set who k,next:=s.next.set who (max k (s.next.getD who 0))}
 let p:=bZ s1
 if p.1 then (dB p.2 (cF p.2),p.2)
 else if p.2.next.getD who 0<p.2.Oz.length then ([cF p.2 who],p.2)
 else ([],p.2)
def pD (s:Rp) (m:OM):Bool := !(m.dst==(s.own:Int))||m.OD==(s.own:Int)||decide (m.OD<0)||decide ((s.n:Int)<=m.OD)||decide (m.N.length<2)||decide (m.N.getD 0 0<1)||decide (1099511627776<m.N.getD 0 0)
def gJ (s0:Rp) (k0:Dk) (m:OM):List OM×Rp×Dk :=
 let s1:=bw s0 k0
 if s1.done||pD s1 m then ([],s1,k0) else
 let p:=if s1.Ow<m.N.getD 0 0 then bB s1 k0 (m.N.getD 0 0) (-1) else (true,s1,k0)
 if p.1 then
  let s:=p.2.1
  let k:=p.2.2
  if m.kind=1 then eX s k m
  else if m.kind=2 then fS s k m
  else if m.kind=3 then eA s k m
  else if m.kind=4 then ((cG s m).1,(cG s m).2,k)
  else if m.kind=5 then (if m.N.length=3 then ([],{ s with heard:=s.heard.set m.OD.toNat ((s.OA:Int),m.N.getD 1 0,m.N.getD 2 0)},k) else ([],s,k))
  else ([],s,k)
 else ([],p.2)
def de (s:Rp):List (List UInt8):=recs (s.Oz.take s.agreed)
def eg (l:List Bool):Array Value:=(l.map Value.bool).toArray
def jZ (l:List Nat):Array Value:=(l.map λ(n:Nat)=>Value.int .i64 (n:Int)).toArray
def pa (x:Int×Int×Int):List Value:=[.int .i64 x.1,.int .i64 x.2.1,.int .i64 x.2.2]
def fZ (l:List (Int×Int×Int)):Array Value:=(l.flatMap pa).toArray
def tT (g n:Nat):Value:=.slice (some ⟨g,0,none⟩) n n
structure EntAt (w:World) (A:List Nat) (cur:Array Value) (i:Nat) (x:Po):Prop where
 ex:∃u,cur[2*i]? = some (.int .i64 x.Ow)/\cur[2*i+1]? = some u/\Qi w A u x.bs
def Xe (w:World) (A:List Nat) (v:Value) (es:List Po):Prop :=
 (v = .slice none 0 0/\es=[])\/∃g c cur,v = .slice (some ⟨g,0,none⟩) es.length c/\es.length<=c/\c<=9223372036854775807/\g∉A/\w.heap[g]? = some (.cells cur 94 (0,0))/\∀i,(h:i<es.length)->EntAt w A cur i es[i]
theorem Xe.step {w w':World} {A A' S:List Nat} {v:Value} {es:List Po} (h:Xe w A v es) (ho:Only S w w') (hS:∀b∈S,b∈A) (he:Ext A A' w):Xe w' A' v es:=by
 rcases h with ⟨rfl,rfl⟩ | ⟨g,c,cur,rfl,h1,h2,h3,h4,h5⟩
 ·exact .inl ⟨rfl,rfl⟩
 ·refine .inr ⟨g,c,cur,rfl,h1,h2,λhm=>?_,ho.keeps h4 (λhm=>h3 (hS g hm)),λi hi=>?_⟩
  ·exact Jc
  ·obtain ⟨u,k1,k2,k3⟩:=h5 i hi;exact ⟨u,k1,k2,k3.step ho hS he⟩
theorem Xe.below {w w':World} {A:List Nat} {v:Value} {es:List Po} (h:Xe w A v es) (hb:Below w.heap.size w w'):Xe w' A v es :=
 h.step (Only.OL hb []) (λb hb=>by cases hb) (Ext.refl _ _)
def fs (d l:Nat) (s:Rp) (vl:Value) (gv gn gm gh:Nat):Array Value :=
 #[.int .i64 (s.own:Int),.int .i64 (s.n:Int),.pointer (some ⟨d,0,none⟩),.pointer (some ⟨l,0,none⟩),.int .i64 s.lives,.bool s.done,.int .i64 s.Ow,.int .i64 s.OC,vl,.int .i64 (s.agreed:Int),.int .i64 (s.many:Int),.bool s.Oy,
  tT gv s.n,tT gn s.n,tT gm s.n,.int .i64 (s.Ox:Int),.int .i64 (s.OA:Int),tT gh s.n]
structure QK (w:World) (A D L R:List Nat) (r d l:Nat) (s:Rp) (k:Dk) (vl:Value) (gv gn gm gh:Nat):Prop where
 wd:WD w A D L l d s.wl k
 cell:w.heap[r]? = some (.cells (fs d l s vl gv gn gm gh) 78 (0,0))
 Oz:Xe w A vl s.Oz
 OB:w.heap[gv]? = some (.cells (eg s.OB) 4 (0,0))
 next:w.heap[gn]? = some (.cells (jZ s.next) 3 (0,0))
 OE:w.heap[gm]? = some (.cells (jZ s.OE) 3 (0,0))
 heard:w.heap[gh]? = some (.cells (fZ s.heard) 117 (0,0))
 nm:gn≠gm
 rR:r∈R
 vR:gv∈R
 nR:gn∈R
 mR:gm∈R
 hR:gh∈R
 Yi:SR R D
 Yh:SR R L
 rA:∀b∈R,b∈A
structure Nd (w:World) (A X:List Nat) (r d l:Nat) (s:Rp) (k:Dk):Prop where
 ex:∃D L R vl gv gn gm gh,QK w A D L R r d l s k vl gv gn gm gh/\∀b,b∈X↔b∈D\/b∈L\/b∈R
structure Mv (A A' X X':List Nat) (w w':World):Prop where
 mv:OY X X' w w'
 ext:Ext A A' w
 sub:∀b∈A,b∈A'
theorem Mv.refl (A X:List Nat) (w:World):Mv A A X X w w:=⟨OY.refl _ _,Ext.refl _ _,λb h=>h⟩
theorem Mv.trans {A A' A'' X X' X'':List Nat} {w w' w'':World} (h:Mv A A' X X' w w') (k:Mv A' A'' X' X'' w' w''):Mv A A'' X X'' w w'' :=
 ⟨h.mv.trans k.mv,λb hb=>by
  rcases k.ext b hb with h1 | h1
  ·exact h.ext b h1
  ·exact .inr (aF h.mv.only.size h1),λb hb=>k.sub b (h.sub b hb)⟩
theorem Mv.only {A X S:List Nat} {w w':World} (h:Only S w w') (hs:∀b∈S,b∈X):Mv A A X X w w':=⟨OY.Qg (h.mono hs),Ext.refl _ _,λb h=>h⟩
theorem Mv.below {A X:List Nat} {w w':World} (h:Below w.heap.size w w'):Mv A A X X w w':=⟨OY.QN h,Ext.refl _ _,λb h=>h⟩
section
variable {w w':World} {A A' X X' D L R:List Nat} {r d l:Nat} {s s':Rp} {k k':Dk} {vl:Value} {gv gn gm gh:Nat}
theorem QK.disL (h:QK w A D L R r d l s k vl gv gn gm gh) {S:List Nat} (hS:∀b∈S,b∈R):∀b∈L,b∉S:=λb hb hs=>h.Yh b (hS b hs) hb
theorem QK.disD (h:QK w A D L R r d l s k vl gv gn gm gh) {S:List Nat} (hS:∀b∈S,b∈R):∀b∈D,b∉S:=λb hb hs=>h.Yi b (hS b hs) hb
theorem QK.Ry (h:QK w A D L R r d l s k vl gv gn gm gh) {S:List Nat} (ho:Only S w w') (hS:∀b∈S,b∈R):WD w' A D L l d s.wl k :=
 ⟨h.wd.wl.keep ho (h.disL hS) (λb hb=>h.rA b (hS b hb)) (Ext.refl _ _),h.wd.dk.keep ho (h.disD hS),h.wd.Vm,h.wd.dA,h.wd.lA,λb hb=>aK (h.wd.alt b hb) ho.size⟩
theorem QK.rlt (h:QK w A D L R r d l s k vl gv gn gm gh):∀b∈R,b<w.heap.size:=λb hb=>h.wd.alt b (h.rA b hb)
theorem cQ {a b:Nat} {ca cb:Array Value} {ta tb:TypeId} {fa fb:Nat×Nat} (ha:w.heap[a]? = some (.cells ca ta fa)) (hb:w.heap[b]? = some (.cells cb tb fb)) (ht:ta≠tb):a≠b:=λe=>by
 subst e;rw [ha] at hb;cases hb;exact ht rfl
theorem QK.RT (h:QK w A D L R r d l s k vl gv gn gm gh) (ho:Only [r] w w') (hc:w'.heap[r]? = some (.cells (fs d l s' vl gv gn gm gh) 78 (0,0)))
  (h1:s'.wl=s.wl) (h2:s'.Oz=s.Oz) (h3:s'.OB=s.OB) (h4:s'.next=s.next) (h5:s'.OE=s.OE) (h6:s'.heard=s.heard):QK w' A D L R r d l s' k vl gv gn gm gh:=by
 have hS:∀b∈[r],b∈R:=λb hb=>KU;refine ⟨by rw [h1];exact h.Ry ho hS,hc,by rw [h2];exact h.Oz.step ho (λb hb=>h.rA b (hS b hb)) (Ext.refl _ _),?_,?_,?_,?_,h.nm,h.rR,h.vR,h.nR,h.mR,h.hR,h.Yi,h.Yh,h.rA⟩
 ·rw [h3];exact ho.keeps h.OB (by simpa using cQ h.OB h.cell dZ)
 ·rw [h4];exact ho.keeps h.next (by simpa using cQ h.next h.cell dZ)
 ·rw [h5];exact ho.keeps h.OE (by simpa using cQ h.OE h.cell dZ)
 ·rw [h6];exact ho.keeps h.heard (by simpa using cQ h.heard h.cell dZ)
theorem QK.nd (h:QK w A D L R r d l s k vl gv gn gm gh) (hX:∀b,b∈X↔b∈D\/b∈L\/b∈R):Nd w A X r d l s k:=⟨⟨D,L,R,vl,gv,gn,gm,gh,h,hX⟩⟩
theorem QK.below (h:QK w A D L R r d l s k vl gv gn gm gh) (hb:Below w.heap.size w w'):QK w' A D L R r d l s k vl gv gn gm gh:=by
 have ho:=Only.OL hb [];exact ⟨h.wd.below hb,ho.keeps h.cell bL,h.Oz.below hb,ho.keeps h.OB bL,ho.keeps h.next bL,ho.keeps h.OE bL,ho.keeps h.heard bL,h.nm,h.rR,h.vR,h.nR,h.mR,h.hR,h.Yi,h.Yh,h.rA⟩
theorem Nd.below (h:Nd w A X r d l s k) (hb:Below w.heap.size w w'):Nd w' A X r d l s k:=by
 obtain ⟨D,L,R,vl,gv,gn,gm,gh,h,hX⟩:=h;exact (h.below hb).nd hX
theorem aB (w:World) (q:Nat):Below w.heap.size w (w.drewN q):=⟨rfl,rfl,rfl,ah _,λ_ _=>rfl⟩
theorem Nd.rX (h:Nd w A X r d l s k):r∈X:=by
 obtain ⟨D,L,R,vl,gv,gn,gm,gh,h,hX⟩:=h;exact (hX _).2 (.inr (.inr h.rR))
theorem Nd.xA (h:Nd w A X r d l s k):∀b∈X,b∈A:=by
 obtain ⟨D,L,R,vl,gv,gn,gm,gh,h,hX⟩:=h;intro b hb;rcases (hX b).1 hb with h1 | h1 | h1
 ·exact h.wd.dA b h1
 ·exact h.wd.lA b h1
 ·exact h.rA b h1
theorem Nd.alt (h:Nd w A X r d l s k):∀b∈A,b<w.heap.size:=by
 obtain ⟨D,L,R,vl,gv,gn,gm,gh,h,hX⟩:=h;exact h.wd.alt
theorem QK.wal {D' L':List Nat} {wl':Wl} {k':Dk} (h:QK w A D L R r d l s k vl gv gn gm gh) (hw:WD w' A' D' L' l d wl' k') (hm:OY (D++L) (D'++L') w w') (he:Ext A A' w) (hs:∀b∈A,b∈A') :
  QK w' A' D' L' R r d l { s with wl:=wl' } k' vl gv gn gm gh/\SR R (D++L):=by
 have hd:SR R (D++L):=λb hb hx=>by
  rcases aA.1 hx with h1 | h1
  ·exact h.Yi b hb h1
  ·exact h.Yh b hb h1
 have hd':SR R (D'++L'):=(hm.Vm hd.symm h.rlt).symm;have hk:∀{g:Nat} {o:Obj},g∈R->w.heap[g]? = some o->w'.heap[g]? = some o:=λhg ho=>hm.only.keeps ho (hd _ hg);refine ⟨⟨hw,hk h.rR h.cell,h.Oz.step hm.only (λb hb=>?_) he,hk h.vR h.OB,hk h.nR h.next,hk h.mR h.OE,hk h.hR h.heard,h.nm,h.rR,h.vR,h.nR,h.mR,h.hR,λb hb hx=>hd' b hb (by simp [hx]),λb hb hx=>hd' b hb (by simp [hx]),λb hb=>hs b (h.rA b hb)⟩,hd⟩;rcases aA.1 hb with h1 | h1
 ·exact h.wd.dA b h1
 ·exact h.wd.lA b h1
end
theorem CJ {p:Prop} (h:p:=by
 refine hK.out _ _ aD (λaD=>?_);clear hK K;refine bX ?_;refine aJ 23 ?_;refine aJ 24 ?_;refine aJ 25 ?_;refine aJ 26 ?_;refine dh 27 λK hK=>?_;go_simp
 refine hK.out _ _ trivial (λaD=>?_);clear hK K;refine bX ?_;refine iX ?_;go_wp2_with fail
 go_ret
 exact P7.out _ _ rfl):p:=h
theorem CI {p:Prop} (h:p:=by
 refine hK.out _ _ aD (λaD=>?_);clear hK K;refine bX ?_;refine dh 18 λK hK=>?_;go_simp
 refine (iq (HD.out.below (aB _ _))).mono ?_;rintro e wa ⟨rfl,rfl⟩;(try rw [e1.out]);go_wp2_with fail
 exact CJ):p:=h
section
variable {w:World} {A X:List Nat} {r d l:Nat} {s:Rp} {k:Dk}
theorem Di {w:World} {r:Nat} {cs:Array Value} {t:TypeId} (h:w.heap[r]? = some (.cells cs t (0,0))) (q:Nat) (i:Nat) (v:Value):((w.drewN q).setCell ⟨r,i,none⟩ v).heap[r]? = some (.cells (cs.setIfInBounds i v) t (0,0)):=be (w:=w.drewN q) h i v
theorem ke (h:Nd w A X r d l s k):Calls Tryz.prog 30 #[.pointer (some ⟨r,0,none⟩)] w λe w'=>e = .returned (.bool (eG s k))/\Nd w' A X r d l (bw s k) k/\Only [r] w w':=by
 obtain ⟨D,L,R,vl,gv,gn,gm,gh,h,hX⟩:=h;have P7:Hid (∀(b:Bool) (q:Nat),b=eG s k->(Ending.returned (.bool b) = .returned (.bool (eG s k))/\Nd ((w.drewN q).setCell ⟨r,5,none⟩ (.bool b)) A X r d l (bw s k) k/\Only [r] w ((w.drewN q).setCell ⟨r,5,none⟩ (.bool b)))):=af (λb q hb=>by
  have ho:Only [r] w ((w.drewN q).setCell ⟨r,5,none⟩ (.bool b)):=((Only.refl _ _).drewN q).setCell bL _;refine ⟨by rw [hb],(h.RT (s':=bw s k) ho ?_ rfl rfl rfl rfl rfl rfl).nd hX,ho⟩;rw [Di h.cell,hb];rfl)
 have HD:=af h.wd.dk;have hc2:w.cell? ⟨r,2,none⟩=some (.pointer (some ⟨d,0,none⟩)):=mU;have Vl:w.cell? ⟨r,4,none⟩=some (.int .i64 s.lives):=mU;have UZ:w.cell? ⟨r,5,none⟩=some (.bool s.done):=mU;have hz:=aU h.cell 5;clear h hX;unfold eG at *;cases P5:s.done with
 | true =>
  rw [P5] at UZ P7;simp only [Bool.true_or] at P7;go_enter Tryz.func30,Tryz.ntmps30
  go_upto_region 1 with (fail)
  refine wp_region_held_drew (S:=λ_=>True) dW trivial (λaD=>?_);refine aJ 0 ?_;refine aJ 1 ?_;refine aJ 2 ?_;refine aJ 3 ?_;refine dh 4 λK hK=>?_;go_simp
  refine hK.out _ _ aD (λaD=>?_);clear hK K;refine bX ?_;refine aJ 5 ?_;refine dR 6 ?_;refine dR 7 ?_;refine dR 8 ?_;refine dR 9 ?_;refine dR 10 ?_;refine dR 11 ?_;exact MV
 | false =>
  rw [P5] at UZ P7;simp only [Bool.false_or] at P7;cases YH:k.off with
  | true =>
   rw [YH] at P7;simp only [Bool.true_or] at P7;have U1:=af YH;have e1:Hid ((!k.off)=false):=af (by rw [YH];rfl);clear YH P5;go_enter Tryz.func30,Tryz.ntmps30
   go_upto_region 1 with (fail)
   refine wp_region_held_drew (S:=λ_=>True) dW trivial (λaD=>?_);refine aJ 0 ?_;refine aJ 1 ?_;refine aJ 2 ?_;refine aJ 3 ?_;refine dh 4 λK hK=>?_;go_simp
   refine hK.out _ _ aD (λaD=>?_);clear hK K;refine bX ?_;refine aJ 5 ?_;refine aJ 6 ?_;refine aJ 7 ?_;refine aJ 8 ?_;refine dh 9 λK hK=>?_;go_simp
   refine hK.out _ _ aD (λaD=>?_);clear hK K;refine bX ?_;refine dh 10 λK hK=>?_;go_simp
   refine (pd (HD.out.below (aB _ _))).mono ?_;rintro e wa ⟨rfl,rfl⟩;(try rw [e1.out]);go_wp2_with fail
   refine hK.out _ _ aD (λaD=>?_);clear hK K;refine bX ?_;refine aJ 11 ?_;exact MV
  | false =>
   rw [YH] at P7;simp only [Bool.false_or] at P7;have e1:Hid ((!k.off)=true):=af (by rw [YH];rfl);clear YH P5;have hne:(k.lives != s.lives) = !(k.lives==s.lives):=rfl;generalize (k.lives==s.lives)=eq at *;go_enter Tryz.func30,Tryz.ntmps30
   go_upto_region 1 with (fail)
   refine wp_region_held_drew (S:=λ_=>True) dW trivial (λaD=>?_);refine aJ 0 ?_;refine aJ 1 ?_;refine aJ 2 ?_;refine aJ 3 ?_;refine dh 4 λK hK=>?_;go_simp
   refine hK.out _ _ aD (λaD=>?_);clear hK K;refine bX ?_;refine aJ 5 ?_;refine aJ 6 ?_;refine aJ 7 ?_;refine aJ 8 ?_;refine dh 9 λK hK=>?_;go_simp
   refine hK.out _ _ aD (λaD=>?_);clear hK K;refine bX ?_;refine dh 10 λK hK=>?_;go_simp
   refine (pd (HD.out.below (aB _ _))).mono ?_;rintro e wa ⟨rfl,rfl⟩;(try rw [e1.out]);go_wp2_with fail
   refine hK.out _ _ aD (λaD=>?_);clear hK K;refine bX ?_;refine aJ 11 ?_;refine aJ 12 ?_;refine aJ 13 ?_;refine aJ 14 ?_;refine aJ 15 ?_;refine aJ 16 ?_;refine aJ 19 ?_;refine aJ 20 ?_;refine aJ 21 ?_;refine mf 17 22 (λK hK=>?_) λK hK=>?_
   ·go_simp
    refine hK.out _ _ aD (λaD=>?_);clear hK K;refine bX ?_;refine mf 18 22 (λK hK=>?_) λK hK=>?_
    ·go_simp
     refine (iq (HD.out.below (aB _ _))).mono ?_;rintro e wa ⟨rfl,rfl⟩;(try rw [e1.out]);go_wp2_with fail
     refine hK.out _ _ aD (λaD=>?_);clear hK K;refine bX ?_;refine dh 22 λK hK=>?_;go_simp
     exact CJ
    ·go_simp
     exact CI
   ·go_simp
    refine hK.out _ _ aD (λaD=>?_);clear hK K;refine bX ?_;refine dh 17 λK hK=>?_;go_simp
    exact CI
end
def fU (k:Dk):List UInt8:=match k.file with | none=>[] | some (b,_)=>b
theorem fV (k:Dk):k.total=(fU k).length:=by
 unfold Dk.total fU;cases k.file with
 | none=>rfl
 | some p=>rfl
structure Wf (s:Rp) (k:Dk):Prop where
 n1:1<=s.n
 n5:s.n<=5
 own:s.own<s.n
 vl:s.OB.length=s.n
 nl:s.next.length=s.n
 ml:s.OE.length=s.n
 hl:s.heard.length=s.n
 room:k.room<=1048576
 RQ:(k.total:Int)<=k.room
 Uv:fU k=F.aY s.wl.recs
 RU:s.Oz.length<=s.wl.recs.length
 Rg:s.agreed<=s.Oz.length
 VK:s.many=(recs (s.Oz.take s.agreed)).length
 lead:s.Oy=true->∀i,s.next.getD i 0<=s.Oz.length/\s.OE.getD i 0<=s.Oz.length
 Ql:0<=s.Ow
 Qy:s.Ow<=1099511627776
 Yj : -1<=s.OC
 Th:s.OC<s.n
 Rk:∀x∈s.Oz,x.bs.length<=8000
 tick:s.Ox<=s.OA
 Sc:∀x∈s.heard,0<=x.1/\x.1<=(s.OA:Int)
theorem jF (l:List (List UInt8)):12*l.length<=(F.aY l).length:=by
 induction l with
 | nil=>simp [F.aY]
 | cons a l ih =>
  have e:F.aY (a::l)=F.cM a++F.aY l:=by simp [F.aY]
  rw [e,aE,F.dG,aX];omega
theorem Wf.fl {s:Rp} {k:Dk} (h:Wf s k):(F.aY s.wl.recs).length<=1048576:=by
 have h1:=h.room;have h2:=h.RQ;rw [fV,h.Uv] at h2;omega
theorem Wf.big {s:Rp} {k:Dk} (h:Wf s k):s.wl.recs.length<=87381:=by
 have:=h.fl;have:=jF s.wl.recs;omega
theorem Wf.QV {s:Rp} {k:Dk} (h:Wf s k):s.Oz.length<=87381:=aF h.RU h.big
structure Py (w w':World) (A X:List Nat) (r d l:Nat) (s':Rp) (k':Dk):Prop where
 ex:∃A' X',Nd w' A' X' r d l s' k'/\Mv A A' X X' w w'
section
variable {w w':World} {A A' X X':List Nat} {r d l:Nat} {s s':Rp} {k k':Dk}
theorem Nd.VJ (h:Nd w' A' X' r d l s' k') (m:Mv A A' X X' w w'):Py w w' A X r d l s' k':=⟨⟨A',X',h,m⟩⟩
theorem Nd.here (h:Nd w' A X r d l s' k') (ho:Only [r] w w') (hr:r∈X):Py w w' A X r d l s' k':=⟨⟨A,X,h,Mv.only ho (by simpa using hr)⟩⟩
theorem zL {D' L' R:List Nat}:∀b,b∈D'++(L'++R)↔b∈D'\/b∈L'\/b∈R:=λb=>bL
theorem CV {D L D' L' R:List Nat} (hX:∀b,b∈X↔b∈D\/b∈L\/b∈R) (hm:OY (D++L) (D'++L') w w') (he:Ext A A' w) (hs:∀b∈A,b∈A'):Mv A A' X (D'++(L'++R)) w w':=by
 have O9:∀b,b∈D++L->b∈X:=λb hb=>(hX b).2 (by
  rcases aA.1 hb with hb | hb
  ·exact .inl hb
  ·exact .inr (.inl hb))
 refine ⟨⟨hm.only.mono O9,λb hb=>?_,λb hb=>?_⟩,he,hs⟩
 ·simp only [aA] at hb;rcases hb with hb | hb | hb
  ·exact (hm.gr b uc).imp (O9 b) id
  ·exact (hm.gr b uc).imp (O9 b) id
  ·exact .inl ((hX b).2 (.inr (.inr hb)))
 ·rcases (hX b).1 hb with h1 | h1 | h1
  ·exact JQ
  ·exact JQ
  ·simp [h1]
theorem ss (h:Nd w A X r d l s k) (ao:Option Addr) (n c:Nat) (b:List UInt8) (hb:Qi w A (.slice ao n c) b) (hn:n<=100000)
  (Y3:s.wl.recs.length<=1000000) (hroom:k.room<=1048576) (h0:(k.total:Int)<=k.room) (Rh:(F.aY s.wl.recs).length<=1048576) :
  Calls Tryz.prog 93 #[.pointer (some ⟨r,0,none⟩),.slice ao n c] w λe w'=>e = .returned (.bool (!(bQ s k b).1.done))/\Py w w' A X r d l (bQ s k b).1 (bQ s k b).2:=by
 obtain ⟨D,L,R,vl,gv,gn,gm,gh,h,hX⟩:=h;have HXr:=af ((hX r).2 (.inr (.inr h.rR)));have hc3:w.cell? ⟨r,3,none⟩=some (.pointer (some ⟨l,0,none⟩)):=mU;have UZ:w.cell? ⟨r,5,none⟩=some (.bool s.done):=mU;have hz:=aU h.cell 5;have HX:=af hX;cases P5:s.done with
 | true =>
  rw [P5] at UZ;have HW:Hid (bQ s k b=(s,k)):=af (by unfold bQ;rw [ay P5]);have UR:=af P5;have P7:Hid (Py w (w.setCell ⟨r,5,none⟩ (.bool true)) A X r d l s k):=af (by
   have ho:Only [r] w (w.setCell ⟨r,5,none⟩ (.bool true)):=(Only.refl _ _).setCell bL _;refine ((h.RT (s':=s) ho ?_ rfl rfl rfl rfl rfl rfl).nd hX).here ho HXr.out;rw [be h.cell,<-P5];rfl)
  clear h hX hb P5;go_enter Tryz.func93,Tryz.ntmps93
  exact Jg
 | false =>
  rw [P5] at UZ;have HW:Hid (bQ s k b=({ s with wl:=(gx s.wl k b).2.1,done := !((gx s.wl k b).1==0)},(gx s.wl k b).2.2)):=af (by unfold bQ;rw [am (by rw [P5];decide)]);have HA:=af (IC h.wd ao n c b hb Y3 hroom h0 Rh hn);have H:=af h;clear h hX hb P5;rw [HW.out];generalize gx s.wl k b=q at *;obtain ⟨e0,wl',k'⟩:=q;simp only at *;have ZY:Hid ((e0 != 0) = !(e0==0)):=af rfl;generalize hee:(!(e0==0))=eb at *;go_enter Tryz.func93,Tryz.ntmps93
  go_wp2_with fail
  refine HA.out.mono ?_;rintro e w2 ⟨rfl,A2,D2,L2,hw2,Qb,he2,hs2⟩;obtain ⟨h2,PJ⟩:=H.out.wal hw2 Qb he2 hs2;have H2:=af h2;have hz2:=aU h2.cell 5;have hc52:w2.cell? ⟨r,5,none⟩=some (.bool s.done):=yf;have HM:Hid (Mv A A2 X (D2++(L2++R)) w w2):=af (CV HX.out Qb he2 hs2);clear h2 hw2 Qb he2 hs2 PJ HA H;have hr2:Hid (Nd (w2.setCell ⟨r,5,none⟩ (.bool eb)) A2 (D2++(L2++R)) r d l { s with wl:=wl',done:=eb } k'):=af (by
   have ho:Only [r] w2 (w2.setCell ⟨r,5,none⟩ (.bool eb)):=(Only.refl _ _).setCell bL _;refine (H2.out.RT (s':={ s with wl:=wl',done:=eb }) ho ?_ rfl rfl rfl rfl rfl rfl).nd zL;rw [be H2.out.cell];rfl)
  have HMF:Hid (Mv A A2 X (D2++(L2++R)) w (w2.setCell ⟨r,5,none⟩ (.bool eb))):=af (HM.out.trans (Mv.only (S:=[r]) ((Only.refl _ _).setCell bL _) (λb hb=>by rw [aj.1 hb];simp [H2.out.rR])));exact JO
theorem qA (h:Nd w A X r d l s k) :
  Calls Tryz.prog 95 #[.pointer (some ⟨r,0,none⟩)] w λe w'=>e = .returned (.bool (!(cO s k).1.done))/\Py w w' A X r d l (cO s k).1 (cO s k).2:=by
 obtain ⟨D,L,R,vl,gv,gn,gm,gh,h,hX⟩:=h;have HXr:=af ((hX r).2 (.inr (.inr h.rR)));have hc3:w.cell? ⟨r,3,none⟩=some (.pointer (some ⟨l,0,none⟩)):=mU;have UZ:w.cell? ⟨r,5,none⟩=some (.bool s.done):=mU;have hz:=aU h.cell 5;have HX:=af hX;cases P5:s.done with
 | true =>
  rw [P5] at UZ;have HW:Hid (cO s k=(s,k)):=af (by unfold cO;rw [ay P5]);have UR:=af P5;have P7:Hid (Py w (w.setCell ⟨r,5,none⟩ (.bool true)) A X r d l s k):=af (by
   have ho:Only [r] w (w.setCell ⟨r,5,none⟩ (.bool true)):=(Only.refl _ _).setCell bL _;refine ((h.RT (s':=s) ho ?_ rfl rfl rfl rfl rfl rfl).nd hX).here ho HXr.out;rw [be h.cell,<-P5];rfl)
  clear h hX P5;go_enter Tryz.func95,Tryz.ntmps95
  exact Jg
 | false =>
  rw [P5] at UZ;have HW:Hid (cO s k=({ s with wl:=(gX s.wl k).2.1,done := !((gX s.wl k).1==0)},(gX s.wl k).2.2)):=af (by unfold cO;rw [am (by rw [P5];decide)]);have HA:=af (Aa h.wd);have H:=af h;clear h hX P5;rw [HW.out];generalize gX s.wl k=q at *;obtain ⟨e0,wl',k'⟩:=q;simp only at *;have ZY:Hid ((e0 != 0) = !(e0==0)):=af rfl;generalize hee:(!(e0==0))=eb at *;go_enter Tryz.func95,Tryz.ntmps95
  go_wp2_with fail
  refine HA.out.mono ?_;rintro e w2 ⟨rfl,hw2,hon2⟩;have Qb:=OY.Qg hon2;have he2:=Ext.refl A w;have hs2:∀b∈A,b∈A:=λb hb=>hb;clear hon2;obtain ⟨h2,PJ⟩:=H.out.wal hw2 Qb he2 hs2;have H2:=af h2;have hz2:=aU h2.cell 5;have hc52:w2.cell? ⟨r,5,none⟩=some (.bool s.done):=yf;have HM:Hid (Mv A A X (D++(L++R)) w w2):=af (CV HX.out Qb he2 hs2);clear h2 hw2 Qb he2 hs2 PJ HA H;have hr2:Hid (Nd (w2.setCell ⟨r,5,none⟩ (.bool eb)) A (D++(L++R)) r d l { s with wl:=wl',done:=eb } k'):=af (by
   have ho:Only [r] w2 (w2.setCell ⟨r,5,none⟩ (.bool eb)):=(Only.refl _ _).setCell bL _;refine (H2.out.RT (s':={ s with wl:=wl',done:=eb }) ho ?_ rfl rfl rfl rfl rfl rfl).nd zL;rw [be H2.out.cell];rfl)
  have HMF:Hid (Mv A A X (D++(L++R)) w (w2.setCell ⟨r,5,none⟩ (.bool eb))):=af (HM.out.trans (Mv.only (S:=[r]) ((Only.refl _ _).setCell bL _) (λb hb=>by rw [aj.1 hb];simp [H2.out.rR])));exact JO
end
section
variable {w w':World} {A A' X X':List Nat} {r d l:Nat} {s s':Rp} {k k':Dk}
theorem jX (Ow who:Int):(ez Ow who).length=24:=by unfold ez;rw [lD];rfl
theorem Nd.cells (h:Nd w A X r d l s k):∃vl gv gn gm gh,w.heap[r]? = some (.cells (fs d l s vl gv gn gm gh) 78 (0,0)):=by
 obtain ⟨D,L,R,vl,gv,gn,gm,gh,h,hX⟩:=h;exact ⟨vl,gv,gn,gm,gh,h.cell⟩
theorem Nd.TV (h:Nd w A X r d l s k) (ho:Only [r] w w') (hc:∀vl gv gn gm gh,w.heap[r]? = some (.cells (fs d l s vl gv gn gm gh) 78 (0,0))->w'.heap[r]? = some (.cells (fs d l s' vl gv gn gm gh) 78 (0,0)))
  (h1:s'.wl=s.wl) (h2:s'.Oz=s.Oz) (h3:s'.OB=s.OB) (h4:s'.next=s.next) (h5:s'.OE=s.OE) (h6:s'.heard=s.heard):Py w w' A X r d l s' k:=by
 have hr:=h.rX;obtain ⟨D,L,R,vl,gv,gn,gm,gh,h,hX⟩:=h;exact ((h.RT ho (hc _ _ _ _ _ h.cell) h1 h2 h3 h4 h5 h6).nd hX).here ho hr
theorem Py.trans {w'':World} (m:Mv A A' X X' w w') (h:Py w' w'' A' X' r d l s k):Py w w'' A X r d l s k:=by
 obtain ⟨A2,X2,h,m2⟩:=h;exact ⟨A2,X2,h,m.trans m2⟩
theorem pz (h:Nd w A X r d l s k) (hw:Wf s k) (Ow who:Int) :
  Calls Tryz.prog 70 #[.pointer (some ⟨r,0,none⟩),.int .i64 Ow,.int .i64 who] w λe w'=>e = .returned (.bool (bB s k Ow who).1)/\Py w w' A X r d l (bB s k Ow who).2.1 (bB s k Ow who).2.2:=by
 have H:=af h;have HW:=af hw;clear h hw;have HP:∀W:World,Nd W A X r d l s k->∀ao c,Qi W A (.slice ao 24 c) (ez Ow who)->Calls Tryz.prog 93 #[.pointer (some ⟨r,0,none⟩),.slice ao 24 c] W λe w'=>e = .returned (.bool (!(bQ s k (ez Ow who)).1.done))/\Py W w' A X r d l (bQ s k (ez Ow who)).1 (bQ s k (ez Ow who)).2:=λW hW ao c hi=>ss hW ao 24 c _ hi az (aF HW.out.big az) HW.out.room HW.out.RQ HW.out.fl;have HP:=af HP;have HN:Hid (ez Ow who=kL [1,Ow,who]):=af rfl;have UQ:=af (jX Ow who);have HE:Hid (bB s k Ow who=(let p:=bQ s k (ez Ow who)
  if p.1.done then (false,p.1,p.2) else
  let q:=cO p.1 p.2
  if q.1.done then (false,q.1,q.2) else
  (true,{ q.1 with Oy:=q.1.Oy && !decide (q.1.Ow<Ow),Ow:=Ow,OC:=who },q.2))):=af rfl
 generalize bQ s k (ez Ow who)=p at *;generalize ez Ow who=nt at *;obtain ⟨s1,k1⟩:=p;simp only at HE HP;cases Vx:s1.done with
 | true =>
  rw [ay Vx] at HE;rw [Vx] at HP;go_enter Tryz.func70,Tryz.ntmps70
  go_wp2_with fail
  refine (lh none 0 0 [] (some ⟨w.heap.size,0,none⟩) 3 3 [1,Ow,who] _ (hZ _) (lO w [1,Ow,who] #[.int .i64 1,.int .i64 Ow,.int .i64 who] rfl 2 (0,0) w.heap.size rfl 3 rfl 3) az az).mono ?_;rintro e w2 ⟨v2,rfl,OZ,hb2⟩;rw [cC,<-HN.out] at OZ;have Pe:Below w.heap.size w w2:=((aG _ _).alloc (ah _) _).trans (hb2.mono bL);have Qw:=Qi.new (A:=A) (OZ.mono (base':=w.heap.size) bL) (w:=w) (H.out.alt);obtain ⟨ao,c,e2,_⟩:=id Qw;rw [UQ.out] at e2;subst e2;have H2:=af (H.out.below Pe);have HB:=af Pe;have HI:=af Qw;clear OZ hb2 Pe Qw;go_wp2_with fail
  refine (HP.out _ H2.out _ _ HI.out).mono ?_;rintro e w3 ⟨rfl,T5⟩;have Xi:=af T5;clear T5;go_wp2_with fail
  go_ret
  rw [HE.out];exact ⟨rfl,Xi.out.trans (Mv.below HB.out)⟩
 | false =>
  rw [am (by rw [Vx];decide)] at HE;rw [Vx] at HP;have HS:=af (λ(W W':World) (A1 X1:List Nat) (h:Nd W A1 X1 r d l s1 k1)=>qA h);generalize cO s1 k1=q at *;obtain ⟨s2,k2⟩:=q;simp only at HE HS;cases PJ:s2.done with
  | true =>
   rw [ay PJ] at HE;rw [PJ] at HS;go_enter Tryz.func70,Tryz.ntmps70
   go_wp2_with fail
   refine (lh none 0 0 [] (some ⟨w.heap.size,0,none⟩) 3 3 [1,Ow,who] _ (hZ _) (lO w [1,Ow,who] #[.int .i64 1,.int .i64 Ow,.int .i64 who] rfl 2 (0,0) w.heap.size rfl 3 rfl 3) az az).mono ?_;rintro e w2 ⟨v2,rfl,OZ,hb2⟩;rw [cC,<-HN.out] at OZ;have Pe:Below w.heap.size w w2:=((aG _ _).alloc (ah _) _).trans (hb2.mono bL);have Qw:=Qi.new (A:=A) (OZ.mono (base':=w.heap.size) bL) (w:=w) (H.out.alt);obtain ⟨ao,c,e2,_⟩:=id Qw;rw [UQ.out] at e2;subst e2;have H2:=af (H.out.below Pe);have HB:=af Pe;have HI:=af Qw;clear OZ hb2 Pe Qw;go_wp2_with fail
   refine (HP.out _ H2.out _ _ HI.out).mono ?_;rintro e w3 ⟨rfl,T5⟩;have Xi:=af T5;clear T5;obtain ⟨A3,X3,h3,m3⟩:=Xi.out;have H3:=af h3;have M3:=af (m3);clear h3 m3 Xi;go_wp2_with fail
   refine (HS.out _ w3 _ _ H3.out).mono ?_;rintro e w4 ⟨rfl,Vu⟩;have Zo:=af Vu;clear Vu;go_wp2_with fail
   go_ret
   rw [HE.out];exact ⟨rfl,Zo.out.trans ((Mv.below HB.out).trans M3.out)⟩
  | false =>
   rw [am (by rw [PJ];decide)] at HE;rw [PJ] at HS;go_enter Tryz.func70,Tryz.ntmps70
   go_wp2_with fail
   refine (lh none 0 0 [] (some ⟨w.heap.size,0,none⟩) 3 3 [1,Ow,who] _ (hZ _) (lO w [1,Ow,who] #[.int .i64 1,.int .i64 Ow,.int .i64 who] rfl 2 (0,0) w.heap.size rfl 3 rfl 3) az az).mono ?_;rintro e w2 ⟨v2,rfl,OZ,hb2⟩;rw [cC,<-HN.out] at OZ;have Pe:Below w.heap.size w w2:=((aG _ _).alloc (ah _) _).trans (hb2.mono bL);have Qw:=Qi.new (A:=A) (OZ.mono (base':=w.heap.size) bL) (w:=w) (H.out.alt);obtain ⟨ao,c,e2,_⟩:=id Qw;rw [UQ.out] at e2;subst e2;have H2:=af (H.out.below Pe);have HB:=af Pe;have HI:=af Qw;clear OZ hb2 Pe Qw;go_wp2_with fail
   refine (HP.out _ H2.out _ _ HI.out).mono ?_;rintro e w3 ⟨rfl,T5⟩;have Xi:=af T5;clear T5;obtain ⟨A3,X3,h3,m3⟩:=Xi.out;have H3:=af h3;have M3:=af (m3);clear h3 m3 Xi;go_wp2_with fail
   refine (HS.out _ w3 _ _ H3.out).mono ?_;rintro e w4 ⟨rfl,Vu⟩;obtain ⟨A4,X4,h4,m4⟩:=Vu;have H4:=af h4;have M4:=af (((Mv.below HB.out).trans M3.out).trans m4);obtain ⟨vl,gv,gn,gm,gh,hcell⟩:=h4.cells;have HC:=af hcell;have Re:w4.cell? ⟨r,6,none⟩=some (.int .i64 s2.Ow):=iI;have hc7:w4.cell? ⟨r,7,none⟩=some (.int .i64 s2.OC):=iI;have Qh:w4.cell? ⟨r,11,none⟩=some (.bool s2.Oy):=iI;have hz7:=aU hcell 7;have hz6:=aU hcell 6;have hz11:=aU hcell 11;clear h4 m4 hcell;by_cases hlt:s2.Ow<Ow
   ·go_wp2_with fail
    go_ret
    rw [HE.out];refine ⟨rfl,Py.trans M4.out ?_⟩;refine Nd.TV H4.out ?_ ?_ rfl rfl rfl rfl rfl rfl
    ·exact (((Only.refl _ _).setCell bL _).setCell bL _).setCell bL _
    ·intro vl gv gn gm gh hc;rw [be (be (be hc 11 _) 6 _) 7 _];simp [fs,hlt]
   ·go_wp2_with fail
    go_ret
    rw [HE.out];refine ⟨rfl,Py.trans M4.out ?_⟩;refine Nd.TV H4.out ?_ ?_ rfl rfl rfl rfl rfl rfl
    ·exact Ea
    ·intro vl gv gn gm gh hc;rw [be (be hc 6 _) 7 _];simp [fs,hlt]
end
theorem K8:(Tryz.prog.info? 94).map (λi=>(i.zero,i.size,i.bytes))=some (some (.agg #[.int .i64 0,.slice none 0 0]),2,32):=dW
section
variable {w w':World} {A A' X X':List Nat} {r d l:Nat} {s s':Rp} {k k':Dk}
def JV (v:Value) (n:Nat):Value:=match v with | .slice ao _ _=>.slice ao n n | x=>x
theorem qj {v:Value} {es:List Po} (h:Xe w A v es):∃ao c,v = .slice ao es.length c/\es.length<=c/\c<=9223372036854775807/\(ao=none->c=0)/\∀p,ao=some p->∃g,p=⟨g,0,none⟩:=by
 rcases h with ⟨rfl,rfl⟩ | ⟨g,c,cur,rfl,h1,h2,h3,h4,h5⟩
 ·exact ⟨none,0,rfl,by simp,by decide,λ_=>rfl,(λp hp=>by cases hp)⟩
 ·exact ⟨_,c,rfl,h1,h2,(λh=>by cases h),(λp hp=>⟨g,by cases hp;rfl⟩)⟩
theorem yY {v u:Value} {es:List Po} (h:Xe w A v es) (n:Nat) (hn:n<=es.length) (hb:es.length<=1000000) {H:Nat} {x:Po} (hH:w.heap[H]? = some (.cells #[.int .i64 x.Ow,u] 94 (0,0))) (hu:Qi w A u x.bs) (hA:∀b∈A,b<w.heap.size) (ty:TypeId) :
  ∃c cur,(Builtin.append_ #[76,76] ty #[JV v n,.slice (some ⟨H,0,none⟩) 1 1]).run Tryz.prog w = .ok (.slice (some ⟨w.heap.size,0,none⟩) (n+1) c) (w.drew.alloc (.cells cur 94))/\Xe (w.drew.alloc (.cells cur 94)) A (.slice (some ⟨w.heap.size,0,none⟩) (n+1) c) (es.take n++[x]):=by
 obtain ⟨i0,Q4,hz0,hz1,hz2⟩:=info_parts K8;have hnews:∀j v,([Value.int .i64 x.Ow,u]:List Value)[j]? = some v->w.cell? ((⟨H,0,none⟩:Addr).add j)=some v:=by
  intro j v hj;rw [Addr.add_lit,cB,ap hH]
  match j,hj with
  | 0,hj=>simpa using hj
  | 1,hj=>simpa using hj
  | j+2,hj=>simp at hj
 rcases h with ⟨rfl,rfl⟩ | ⟨g,c,cur,rfl,h1,h2,h3,h4,h5⟩
 ·obtain rfl:n=0:=by simpa using hn
  have hr:=run_append_nil (P:=Tryz.prog) (w:=w) 76 ty 94 i0 (.agg #[.int .i64 0,.slice none 0 0]) Tryz.underlying76 Q4 hz0 ⟨H,0,none⟩ 1 1 [.int .i64 x.Ow,u] Ej hnews az az Bm;refine ⟨_,_,hr,.inr ⟨w.heap.size,_,_,rfl,?_,?_,λhm=>?_,aV w.drew _,λi hi=>?_⟩⟩
  ·simpa using grownCap_ge w 1 0 94
  ·exact aF (grownCap_le_maxLen w 1 0 94 kE) kE
  ·have:=hA _ hm;omega
  ·obtain rfl:i=0:=by simp at hi;omega
   exact ⟨u,by rw [fc bL];simp,by rw [fc bL];simp,hu.below (aB w 1 |>.alloc (ah _) _)⟩
 ·have UH:∀i,(hi:i<es.length)->∃u,cur[2*i]? = some (.int .i64 es[i].Ow)/\cur[2*i+1]? = some u/\Qi w A u es[i].bs:=λi hi=>(h5 i hi).ex;have hsz:2*es.length<=cur.size:=by
   rcases Nat.eq_zero_or_pos es.length with h0 | h0
   ·omega
   ·obtain ⟨u,_,k2,_⟩:=UH (es.length - 1) az;have:=(jN.1 k2).1;omega
  have Up:(cur.toList.take (n*2)).length=n*2:=by rw [aQ,sq];omega
  have hr:=run_append_grow (P:=Tryz.prog) (w:=w) 76 ty 94 i0 (.agg #[.int .i64 0,.slice none 0 0]) Tryz.underlying76 Q4 hz0 ⟨g,0,none⟩ n n (cur.toList.take (n*2)) (by rw [hz1];exact Up)
   (by
    intro j v hj;rw [Addr.add_lit,cB,ap h4];rw [fz] at hj;split at hj
    ·simpa using hj
    ·cases hj) ⟨H,0,none⟩ 1 1 [.int .i64 x.Ow,u] Ej hnews az az (growslice_fits az Bm)
  refine ⟨_,_,hr,.inr ⟨w.heap.size,grownCap w (n+1) n 94,_,?_,?_,?_,λhm=>?_,aV w.drew _,λi hi=>?_⟩⟩
  ·simp [bT hn]
  ·simpa [bT hn] using grownCap_ge w (n+1) n 94
  ·exact aF (grownCap_le_maxLen w (n+1) n 94 kE) kE
  ·have:=hA _ hm;omega
  ·have hi':i<n+1:=by simpa [bT hn] using hi
   have Pe:Below w.heap.size w (w.drew.alloc (.cells ((cur.toList.take (n*2)).toArray++[Value.int .i64 x.Ow,u].toArray++Builtin.zeroCells (Value.agg #[.int .i64 0,.slice none 0 0]).cells (grownCap w (n+1) n 94 - (n+1))) 94)):=aB w 1 |>.alloc (ah _) _;by_cases hlt:i<n
   ·obtain ⟨u1,k1,k2,k3⟩:=UH i az;refine ⟨u1,?_,?_,?_⟩
    ·rw [Oh,fc (by simp [Up];omega)];simp only [jx,fz];rw [ay az,ft,k1];simp [z8,bT hn,hlt]
    ·rw [Oh,fc (by simp [Up];omega)];simp only [jx,fz];rw [ay az,ft,k2]
    ·have e:(es.take n++[x])[i]=es[i]:=by simp [z8,bT hn,hlt]
     rw [e];exact k3.below Pe
   ·obtain rfl:i=n:=by omega
    have hl2:(cur.toList.take (i*2)).toArray.size=2*i:=by simp [Up];omega
    have e:(es.take i++[x])[i]=x:=by simp [List.getElem_append_right,bT hn]
    rw [e];refine ⟨u,?_,?_,hu.below Pe⟩
    ·rw [Oh,Array.getElem?_append_right az,hl2,F6];rw [fc bL];simp
    ·rw [Oh,Array.getElem?_append_right az,hl2,show 2*i+1 - 2*i=1 by omega];rw [fc bL];simp
theorem jB {ops:Array Oper} {rest:List Oper} {o:Oper} {a:Act} {Q:Exit->Act->World->Prop} (hgd:o.guard=none) (sx x:Operand)
  (ho:o.op = .call { callee:=.builtin .append,args:=#[sx,x],argTypes:=#[76,76]})
  {v u:Value} {es:List Po} (h:Xe w A v es) (n:Nat) (hn:n<=es.length) (hb:es.length<=1000000) {H:Nat} {y:Po} (hH:w.heap[H]? = some (.cells #[.int .i64 y.Ow,u] 94 (0,0))) (hu:Qi w A u y.bs) (hA:∀b∈A,b<w.heap.size)
  (hs:a.eval sx=JV v n) (hx:a.eval x = .slice (some ⟨H,0,none⟩) 1 1)
  (hk:∀c cur,Xe (w.drew.alloc (.cells cur 94)) A (.slice (some ⟨w.heap.size,0,none⟩) (n+1) c) (es.take n++[y])->wpList Tryz.prog ops Q rest (a.put o.dst (.slice (some ⟨w.heap.size,0,none⟩) (n+1) c)) (w.drew.alloc (.cells cur 94))):wpList Tryz.prog ops Q (o::rest) a w:=by
 obtain ⟨c,cur,hr,h2⟩:=yY h n hn hb hH hu hA o.type;refine wpList_plain hgd λK hK=>?_;unfold Oper.wp;simp [execOp,ho,resolve,invoke,builtin,hs,hx,hr,Result.andThen];exact hK _ _ (hk c cur h2)
end
theorem Cu {p:Prop} (h:p:=by
 refine dh 10 λK hK=>?_;refine d8 rfl λQ' hQ=>?_;refine jB rfl (.tmp 26) (.tmp 28) rfl HC5.out.Oz p HLP2.out.1 HLP2.out.2 (y:=x) HX5.out HU5.out HC5.out.wd.alt jy jy ?_;intro c7 Ud he7;refine hQ _ _ ?_;clear hQ Q';have Yf:Below w5.heap.size w5 (w5.drew.alloc (.cells Ud 94)):=(aB w5 1).alloc (ah _) _;have HC7:=af (HC5.out.below Yf);have HE7:=af he7;have ZA:=af (Q6.out.trans (Yf.mono Q6.out.size));have hk7:=HS4.out _ ZA.out;clear Yf he7;refine hK.out _ _ hk7 (λaD=>?_);clear hK K;refine bX ?_;generalize hw7:w5.drew.alloc (.cells Ud 94)=w7 at *;have hsz7:w5.heap.size<w7.heap.size:=by rw [<-hw7];simp
 clear hw7 hk7;refine aJ 11 ?_;refine aJ 12 ?_;refine dh 13 λK hK=>?_;have ZF:w7.cell? ⟨r,8,none⟩=some (.slice al s1.Oz.length cl):=by rw [ap HC7.out.cell];rfl
 have hz8:=aU HC7.out.cell 8;go_simp
 clear ZF hz8;have RG:=ZX.out w7 _ ZA.out ((Only.refl [r] _).setCell (p:=⟨r,8,none⟩) bL (.slice (some ⟨w5.heap.size,0,none⟩) (p+1) c7));refine hK.out _ _ RG (λaD=>?_);clear hK K;refine bX ?_;clear RG;refine iX ?_;go_wp2_with fail
 go_ret
 rw [HE.out];exact ⟨rfl,Py.trans QU.out (Py.trans HM4.out (sJ HX4.out ZA.out HC7.out HE7.out (gc VN) hsz7))⟩):p:=h
section
variable {w w':World} {A A' X X':List Nat} {r d l:Nat} {s s':Rp} {k k':Dk}
theorem u9 (l:List UInt8):Cj (gB l)=iy (l.length:Int)++l:=by unfold Cj;rfl
theorem i7 (p:Nat) (x:Po):(dY p x).length=32+x.bs.length:=by unfold dY;rw [aE,aE,lD,ie];simp;omega
def wP (x:Po) (u:Value):Value:=.agg #[.int .i64 x.Ow,u]
theorem sJ {w4 w7:World} {A4 X4 D L R:List Nat} {s1:Rp} {k1:Dk} {vl:Value} {gv gn gm gh g c p:Nat} {x:Po} (hX:∀b,b∈X4↔b∈D\/b∈L\/b∈R) (hb:Below w4.heap.size w4 w7) (h:QK w7 A4 D L R r d l s1 k1 vl gv gn gm gh)
  (he:Xe w7 A4 (.slice (some ⟨g,0,none⟩) (p+1) c) (s1.Oz.take p++[x])) (hg:w4.heap.size<=g) (hg7:g<w7.heap.size) :
  Py w4 (w7.setCell ⟨r,8,none⟩ (.slice (some ⟨g,0,none⟩) (p+1) c)) A4 X4 r d l { s1 with Oz:=s1.Oz.take p++[x]} k1:=by
 have ho:Only [r] w7 (w7.setCell ⟨r,8,none⟩ (.slice (some ⟨g,0,none⟩) (p+1) c)):=(Only.refl _ _).setCell bL _;have hS:∀b∈[r],b∈R:=λb hb=>KU;have hn:QK (w7.setCell ⟨r,8,none⟩ (.slice (some ⟨g,0,none⟩) (p+1) c)) A4 D L R r d l { s1 with Oz:=s1.Oz.take p++[x]} k1 (.slice (some ⟨g,0,none⟩) (p+1) c) gv gn gm gh :=
  ⟨h.Ry ho hS,by rw [be h.cell];rfl,he.step ho (λb hb=>h.rA b (hS b hb)) (Ext.refl _ _),ho.keeps h.OB (by simpa using cQ h.OB h.cell dZ),ho.keeps h.next (by simpa using cQ h.next h.cell dZ),ho.keeps h.OE (by simpa using cQ h.OE h.cell dZ),ho.keeps h.heard (by simpa using cQ h.heard h.cell dZ),h.nm,h.rR,h.vR,h.nR,h.mR,h.hR,h.Yi,h.Yh,h.rA⟩
 exact (hn.nd hX).VJ ((Mv.below hb).trans (Mv.only ho (λb hb=>(hX b).2 (.inr (.inr (hS b hb))))))
theorem sK (h:Nd w A X r d l s k) (hw:Wf s k) (p:Nat) (x:Po) (hp:p<=s.Oz.length) (hx:x.bs.length<=8000) (u:Value) (hu:Qi w A u x.bs) :
  Calls Tryz.prog 97 #[.pointer (some ⟨r,0,none⟩),.int .i64 (p:Int),wP x u] w λe w'=>e = .returned (.bool (cR s k p x).1)/\Py w w' A X r d l (cR s k p x).2.1 (cR s k p x).2.2:=by
 obtain ⟨ao,c,rfl,Su,PN,hu3⟩:=hu;have HU:Hid (Qi w A (.slice ao x.bs.length c) x.bs):=af ⟨ao,c,rfl,Su,PN,hu3⟩;have Ux:=af (show ∀b∈A,b<(w.alloc (.cells #[.int .i64 x.Ow,.slice ao x.bs.length c] 94)).heap.size from λb hb=>by have:=h.alt b hb;simp;omega);have Ub:Below w.heap.size w (w.alloc (.cells #[.int .i64 x.Ow,.slice ao x.bs.length c] 94)):=(aG _ _).alloc (ah _) _;have H0:=af (h.below Ub);have QU:Hid (Mv A A X X w (w.alloc (.cells #[.int .i64 x.Ow,.slice ao x.bs.length c] 94))):=af (Mv.below Ub);have Yn:=af (HU.out.below Ub);have hbox:=af (aV w (.cells #[.int .i64 x.Ow,.slice ao x.bs.length c] 94));have HP:Hid (∀W',Below (w.alloc (.cells #[.int .i64 x.Ow,.slice ao x.bs.length c] 94)).heap.size (w.alloc (.cells #[.int .i64 x.Ow,.slice ao x.bs.length c] 94)) W'->∀a3 c3,Qi W' A (.slice a3 (32+x.bs.length) c3) (dY p x)->Calls Tryz.prog 93 #[.pointer (some ⟨r,0,none⟩),.slice a3 (32+x.bs.length) c3] W' λe w'=>e = .returned (.bool (!(bQ s k (dY p x)).1.done))/\Py (w.alloc (.cells #[.int .i64 x.Ow,.slice ao x.bs.length c] 94)) w' A X r d l (bQ s k (dY p x)).1 (bQ s k (dY p x)).2):=af (λW' hb a3 c3 hi =>
  (ss (H0.out.below hb) a3 _ c3 _ hi az (aF hw.big az) hw.room hw.RQ hw.fl).mono KZ)
 have ZY:Hid (dY p x=kL [2,(p:Int),x.Ow]++Cj (gB x.bs)):=af (by rw [u9];rfl);have UQ:=af (i7 p x);have HSZ:Hid ((gB x.bs).size<=8000):=af hx;have HE:Hid (cR s k p x=(let q:=bQ s k (dY p x)
  if q.1.done then (false,q.1,q.2) else (true,{ q.1 with Oz:=q.1.Oz.take p++[x]},q.2))):=af rfl
 have HXA:=af h.xA;have Xj:Hid ((bQ s k (dY p x)).1.Oz=s.Oz):=af (by unfold bQ;split<;>rfl);have HLP:Hid (p<=s.Oz.length/\s.Oz.length<=1000000):=af ⟨hp,aF hw.QV az⟩;have hlt:w.heap.size<(w.alloc (.cells #[.int .i64 x.Ow,.slice ao x.bs.length c] 94)).heap.size:=bL;have Ty:Hid (∀b∈X,b≠w.heap.size):=af (λb hb e=>by have:=h.alt b (h.xA b hb);omega);have Xh:Hid (∀w',Below (w.alloc (.cells #[.int .i64 x.Ow,.slice ao x.bs.length c] 94)).heap.size (w.alloc (.cells #[.int .i64 x.Ow,.slice ao x.bs.length c] 94)) w'->w'.cell? ⟨w.heap.size,0,none⟩=some (.int .i64 x.Ow)/\w'.cell? ⟨w.heap.size,1,none⟩=some (.slice ao x.bs.length c)/\(convert 31 9 (.slice ao x.bs.length c)).run Tryz.prog w' = .ok (.string (gB x.bs)) w'):=af (λw' hb=>by
  have hb2:=bA hb hlt hbox.out;refine ⟨by rw [ap hb2];rfl,by rw [ap hb2];rfl,kf _ _ _ _ _ ?_⟩;obtain ⟨Wj,c',e,h1,_⟩:=Yn.out.below hb;cases e;exact h1)
 have Ws:Hid (∀w3 w4,Below (w.alloc (.cells #[.int .i64 x.Ow,.slice ao x.bs.length c] 94)).heap.size (w.alloc (.cells #[.int .i64 x.Ow,.slice ao x.bs.length c] 94)) w3->Py (w.alloc (.cells #[.int .i64 x.Ow,.slice ao x.bs.length c] 94)) w4 A X r d l (bQ s k (dY p x)).1 (bQ s k (dY p x)).2->w4.cell? ⟨w.heap.size,0,none⟩=some (.int .i64 x.Ow)/\w4.cell? ⟨w.heap.size,1,none⟩=some (.slice ao x.bs.length c)/\(convert 31 9 (.slice ao x.bs.length c)).run Tryz.prog w4 = .ok (.string (gB x.bs)) w4):=af (λw3 w4 hb hn=>by
  obtain ⟨A4,X4,h4,m4⟩:=hn;have hb2:=m4.mv.only.keeps hbox.out (λhm=>Ty.out _ hm rfl);refine ⟨by rw [ap hb2];rfl,by rw [ap hb2];rfl,kf _ _ _ _ _ ?_⟩;obtain ⟨Wj,c',e,h1,_⟩:=Yn.out.step m4.mv.only HXA.out m4.ext;cases e;exact h1)
 clear h hw Su PN hu3 hx hp Ub hlt;generalize bQ s k (dY p x)=q at *;obtain ⟨s1,k1⟩:=q;unfold wP;generalize x.bs.length=n at *;simp only at HE HP Ws;cases Vx:s1.done with
 | true =>
  rw [ay Vx] at HE;rw [Vx] at HP;go_enter Tryz.func97,Tryz.ntmps97
  go_upto_region 1 with (fail)
  generalize hW:w.alloc (.cells #[.int .i64 x.Ow,.slice ao n c] 94)=W at *;refine wp_region_held_drew (S:=λw'=>w'.cell? ⟨w.heap.size,0,none⟩=some (.int .i64 x.Ow)/\w'.cell? ⟨w.heap.size,1,none⟩=some (.slice ao n c)/\(convert 31 9 (.slice ao n c)).run Tryz.prog w' = .ok (.string (gB x.bs)) w') dW (Xh.out _ (aB W 1)) (λaD=>?_);refine aJ 0 ?_;refine aJ 1 ?_;refine aJ 2 ?_;refine aJ 3 ?_;refine aJ 6 ?_;refine aJ 7 ?_;refine aJ 8 ?_;have QQ:Hid (Below W.heap.size W W.drew):=af (aB W 1);generalize W.drew=V at *;refine dh 4 λK hK=>?_;go_simp
  refine hK.out _ _ (Xh.out _ (QQ.out.alloc QQ.out.size _)) (λaD=>?_);clear hK K;refine bX ?_;refine dh 5 λK hK=>?_;go_simp
  refine (lh none 0 0 [] (some ⟨V.heap.size,0,none⟩) 3 3 [2,(p:Int),x.Ow] _ (hZ _) (lO V [2,(p:Int),x.Ow] #[.int .i64 2,.int .i64 (p:Int),.int .i64 x.Ow] rfl 2 (0,0) V.heap.size rfl 3 rfl 3) az az).mono ?_;rintro e w2 ⟨v2,rfl,OZ,hb2⟩;have Pe:Below W.heap.size W w2:=(QQ.out.alloc QQ.out.size _).trans (hb2.mono (by have:=QQ.out.size;simp;omega));rw [cC] at OZ;obtain ⟨a2,c2,e2,Tw⟩:=OZ.S9;have YQ:(kL [2,(p:Int),x.Ow]).length=24:=by rw [lD];rfl
  rw [YQ] at e2 Tw;subst e2;have HI2:=af Tw;have O5:=af Pe;clear OZ Tw hb2 Pe YQ;go_wp2_with fail
  refine hK.out _ _ (Xh.out _ (O5.out)) (λaD=>?_);clear hK K;refine bX ?_;refine dh 9 λK hK=>?_;go_simp
  refine (uZ a2 24 c2 _ (gB x.bs) _ HI2.out az (by have:=HSZ.out;omega)).mono ?_;rintro e w3 ⟨v3,rfl,RD,hb3⟩;have Pe:Below W.heap.size W w3:=O5.out.trans (hb3.mono O5.out.size);have Qw:Qi w3 A v3 (dY p x):=by
    rw [ZY.out];exact Qi.new (RD.mono O5.out.size) Ux.out
  obtain ⟨a3,c3,e3,_⟩:=id Qw;rw [UQ.out] at e3;subst e3;have HI3:=af Qw;have Pk:=af Pe;clear RD hb3 Pe Qw;go_wp2_with fail
  refine hK.out _ _ (Xh.out _ (Pk.out)) (λaD=>?_);clear hK K;refine bX ?_;refine dh 10 λK hK=>?_;go_simp
  refine (HP.out _ Pk.out _ _ HI3.out).mono ?_;rintro e w4 ⟨rfl,Vu⟩;have Zo:=af Vu;have Yp:=af (Ws.out _ _ Pk.out Vu);clear Vu;go_wp2_with fail
  refine hK.out _ _ Yp.out (λaD=>?_);clear hK K;refine bX ?_;refine aJ 11 ?_;refine iX ?_;go_wp2_with fail
  go_ret
  rw [HE.out];exact ⟨rfl,Zo.out.trans QU.out⟩
 | false =>
  rw [am (by rw [Vx];decide)] at HE;rw [Vx] at HP;go_enter Tryz.func97,Tryz.ntmps97
  go_upto_region 1 with (fail)
  generalize hW:w.alloc (.cells #[.int .i64 x.Ow,.slice ao n c] 94)=W at *;refine wp_region_held_drew (S:=λw'=>w'.cell? ⟨w.heap.size,0,none⟩=some (.int .i64 x.Ow)/\w'.cell? ⟨w.heap.size,1,none⟩=some (.slice ao n c)/\(convert 31 9 (.slice ao n c)).run Tryz.prog w' = .ok (.string (gB x.bs)) w') dW (Xh.out _ (aB W 1)) (λaD=>?_);refine aJ 0 ?_;refine aJ 1 ?_;refine aJ 2 ?_;refine aJ 3 ?_;refine aJ 6 ?_;refine aJ 7 ?_;refine aJ 8 ?_;have QQ:Hid (Below W.heap.size W W.drew):=af (aB W 1);generalize W.drew=V at *;refine dh 4 λK hK=>?_;go_simp
  refine hK.out _ _ (Xh.out _ (QQ.out.alloc QQ.out.size _)) (λaD=>?_);clear hK K;refine bX ?_;refine dh 5 λK hK=>?_;go_simp
  refine (lh none 0 0 [] (some ⟨V.heap.size,0,none⟩) 3 3 [2,(p:Int),x.Ow] _ (hZ _) (lO V [2,(p:Int),x.Ow] #[.int .i64 2,.int .i64 (p:Int),.int .i64 x.Ow] rfl 2 (0,0) V.heap.size rfl 3 rfl 3) az az).mono ?_;rintro e w2 ⟨v2,rfl,OZ,hb2⟩;have Pe:Below W.heap.size W w2:=(QQ.out.alloc QQ.out.size _).trans (hb2.mono (by have:=QQ.out.size;simp;omega));rw [cC] at OZ;obtain ⟨a2,c2,e2,Tw⟩:=OZ.S9;have YQ:(kL [2,(p:Int),x.Ow]).length=24:=by rw [lD];rfl
  rw [YQ] at e2 Tw;subst e2;have HI2:=af Tw;have O5:=af Pe;clear OZ Tw hb2 Pe YQ;go_wp2_with fail
  refine hK.out _ _ (Xh.out _ (O5.out)) (λaD=>?_);clear hK K;refine bX ?_;refine dh 9 λK hK=>?_;go_simp
  refine (uZ a2 24 c2 _ (gB x.bs) _ HI2.out az (by have:=HSZ.out;omega)).mono ?_;rintro e w3 ⟨v3,rfl,RD,hb3⟩;have Pe:Below W.heap.size W w3:=O5.out.trans (hb3.mono O5.out.size);have Qw:Qi w3 A v3 (dY p x):=by
    rw [ZY.out];exact Qi.new (RD.mono O5.out.size) Ux.out
  obtain ⟨a3,c3,e3,_⟩:=id Qw;rw [UQ.out] at e3;subst e3;have HI3:=af Qw;have Pk:=af Pe;clear RD hb3 Pe Qw;go_wp2_with fail
  refine hK.out _ _ (Xh.out _ (Pk.out)) (λaD=>?_);clear hK K;refine bX ?_;refine dh 10 λK hK=>?_;go_simp
  refine (HP.out _ Pk.out _ _ HI3.out).mono ?_;rintro e w4 ⟨rfl,Vu⟩;have Zo:=af Vu;have Yp:=af (Ws.out _ _ Pk.out Vu);clear Vu;go_wp2_with fail
  refine hK.out _ _ Yp.out (λaD=>?_);clear hK K;refine bX ?_;refine aJ 11 ?_;refine iX ?_;obtain ⟨A4,X4,h4,m4⟩:=Zo.out;have HM4:=af m4;have HU4:=af (Yn.out.step m4.mv.only HXA.out m4.ext);have HBX4:=af (m4.mv.only.keeps hbox.out (λhm=>Ty.out _ hm rfl));obtain ⟨D,L,R,vl,gv,gn,gm,gh,h4,TT⟩:=h4;have HX4:=af TT;have HC4:=af h4;have HCD:Hid (QK w4.drew A4 D L R r d l s1 k1 vl gv gn gm gh):=af (h4.below (aB w4 1));have HHA:Hid (∀b∈R,b≠w.heap.size):=af (λb hb e=>by
    rcases m4.mv.gr b ((TT b).2 (.inr (.inr hb))) with h1 | h1
    ·exact Ty.out b h1 e
    ·have:=bg hbox.out;omega)
  have HS4:Hid (∀w',Below w4.heap.size w4 w'->w'.cell? ⟨w.heap.size,0,none⟩=some (.int .i64 x.Ow)/\w'.cell? ⟨w.heap.size,1,none⟩=some (.slice ao n c)):=af (λw' hb=>by
    have hb2:=bA hb (bg HBX4.out) HBX4.out;exact ⟨by rw [ap hb2];rfl,by rw [ap hb2];rfl⟩)
  have ZX:Hid (∀w7 w8,Below w4.heap.size w4 w7->Only [r] w7 w8->w8.cell? ⟨w.heap.size,0,none⟩=some (.int .i64 x.Ow)/\w8.cell? ⟨w.heap.size,1,none⟩=some (.slice ao n c)):=af (λw7 w8 hb ho=>by
    have hb2:=ho.keeps (bA hb (bg HBX4.out) HBX4.out) (by simpa using (HHA.out r HC4.out.rR).symm);exact ⟨by rw [ap hb2];rfl,by rw [ap hb2];rfl⟩)
  have HLP2:Hid (p<=s1.Oz.length/\s1.Oz.length<=1000000):=af (by rw [Xj.out];exact HLP.out);obtain ⟨al,cl,evl,Sw,hcm,UY,hcg⟩:=qj h4.Oz;subst evl;have Vg:p<=cl:=aF HLP2.out.1 Sw;clear h4 m4 TT Zo;go_upto_region 3 with (fail)
  refine wp_region_held_drew (S:=λw'=>w'.cell? ⟨w.heap.size,0,none⟩=some (.int .i64 x.Ow)/\w'.cell? ⟨w.heap.size,1,none⟩=some (.slice ao n c)) dW (HS4.out _ (aB w4 1)) (λaD=>?_);refine aJ 0 ?_;refine aJ 1 ?_;refine aJ 2 ?_;refine aJ 3 ?_;refine aJ 5 ?_;refine aJ 6 ?_;refine aJ 8 ?_;have XS:Hid (Below w4.heap.size w4 w4.drew):=af (aB w4 1);generalize w4.drew=V4 at *;refine mf 4 9 (λK hK=>?_) λK hK=>?_
  ·have ZF:V4.cell? ⟨r,8,none⟩=some (.slice al s1.Oz.length cl):=by rw [ap HCD.out.cell];rfl
   go_simp
   clear ZF;refine hK.out _ _ aD (λaD=>?_);clear hK K;refine bX ?_;refine aJ 7 ?_;refine dh 9 λK hK=>?_;go_simp
   have Sx:Below w4.heap.size w4 (V4.alloc (.cells #[.int .i64 x.Ow,.slice ao n c] 94)):=XS.out.alloc XS.out.size _;have HC5:=af (HC4.out.below Sx);have HU5:=af (HU4.out.below Sx);have HX5:=af (aV V4 (.cells #[.int .i64 x.Ow,.slice ao n c] 94));have Q6:=af Sx;have hk5:=HS4.out _ Sx;clear Sx;refine hK.out _ _ hk5 (λaD=>?_);clear hK K;refine bX ?_;generalize hw5:V4.alloc (.cells #[.int .i64 x.Ow,.slice ao n c] 94)=w5 at *;have VN:w4.heap.size<w5.heap.size:=by have:=XS.out.size;rw [<-hw5];simp;omega
   clear hw5 hk5;exact Cu
  ·go_simp
   have Sx:Below w4.heap.size w4 (V4.alloc (.cells #[.int .i64 x.Ow,.slice ao n c] 94)):=XS.out.alloc XS.out.size _;have HC5:=af (HC4.out.below Sx);have HU5:=af (HU4.out.below Sx);have HX5:=af (aV V4 (.cells #[.int .i64 x.Ow,.slice ao n c] 94));have Q6:=af Sx;have hk5:=HS4.out _ Sx;clear Sx;refine hK.out _ _ hk5 (λaD=>?_);clear hK K;refine bX ?_;generalize hw5:V4.alloc (.cells #[.int .i64 x.Ow,.slice ao n c] 94)=w5 at *;have VN:w4.heap.size<w5.heap.size:=by have:=XS.out.size;rw [<-hw5];simp;omega
   clear hw5 hk5;refine dh 4 λK hK=>?_;have ZF:w5.cell? ⟨r,8,none⟩=some (.slice al s1.Oz.length cl):=by rw [ap HC5.out.cell];rfl
   go_simp
   clear ZF;refine hK.out _ _ aD (λaD=>?_);clear hK K;refine bX ?_;refine aJ 7 ?_;exact Cu
end
theorem Ct {p:Prop} (h:p:=by
 refine dh 7 λK hK=>?_;go_simp
 refine (HP.out _ (aB _ _)).mono ?_;rintro e w2 ⟨rfl,Pf⟩;have QT:=af Pf;clear Pf;go_wp2_with fail
 refine hK.out _ _ trivial (λaD=>?_);clear hK K;refine bX ?_;refine aJ 8 ?_;refine dR 9 ?_;refine dR 10 ?_;refine aJ 11 ?_;refine aJ 12 ?_;refine iX ?_;go_wp2_with fail
 go_ret
 rw [HE.out];exact ⟨rfl,QT.out⟩):p:=h
theorem Cr {p:Prop} (h:p:=by
 refine dh 7 λK hK=>?_;go_simp
 refine (HP.out _ (aB _ _)).mono ?_;rintro e w2 ⟨rfl,Pf⟩;have QT:=af Pf;clear Pf;go_wp2_with fail
 refine hK.out _ _ trivial (λaD=>?_);clear hK K;refine bX ?_;refine aJ 8 ?_;refine aJ 9 ?_;refine dh 10 λK hK=>?_;obtain ⟨A2,X2,h2,m2⟩:=QT.out;go_simp
 refine (HS.out _ _ _ h2).mono ?_;rintro e w3 ⟨rfl,T5⟩;have Xi:=af (T5.trans m2);clear T5 h2 m2;go_wp2_with fail
 refine hK.out _ _ trivial (λaD=>?_);clear hK K;refine bX ?_;refine aJ 11 ?_;refine aJ 12 ?_;refine iX ?_;go_wp2_with fail
 go_ret
 rw [HE.out];exact ⟨rfl,Xi.out⟩):p:=h
section
variable {w w':World} {A A' X X':List Nat} {r d l:Nat} {s s':Rp} {k k':Dk}
theorem Nd.Qd (h:Nd w A X r d l s k):∃ao c,w.cell? ⟨r,8,none⟩=some (.slice ao s.Oz.length c)/\s.Oz.length<=c/\c<=9223372036854775807:=by
 obtain ⟨D,L,R,vl,gv,gn,gm,gh,h,hX⟩:=h;obtain ⟨ao,c,e,h1,h2,_⟩:=qj h.Oz;exact ⟨ao,c,by rw [ap h.cell,<-e];rfl,h1,h2⟩
theorem zq (h:Nd w A X r d l s k) (hw:Wf s k) (x:Po) (hx:x.bs.length<=8000) (u:Value) (hu:Qi w A u x.bs) :
  Calls Tryz.prog 79 #[.pointer (some ⟨r,0,none⟩),wP x u] w λe w'=>e = .returned (.bool (gt s k x).1)/\Py w w' A X r d l (gt s k x).2.1 (gt s k x).2.2:=by
 obtain ⟨al,cl,Rq,PH,hl2⟩:=h.Qd;have Ub:Below w.heap.size w (w.alloc (.cells #[.int .i64 x.Ow,u] 94)):=(aG _ _).alloc (ah _) _;have HP:Hid (∀W',Below (w.alloc (.cells #[.int .i64 x.Ow,u] 94)).heap.size (w.alloc (.cells #[.int .i64 x.Ow,u] 94)) W'->Calls Tryz.prog 97 #[.pointer (some ⟨r,0,none⟩),.int .i64 (s.Oz.length:Int),wP x u] W' λe w'=>e = .returned (.bool (cR s k s.Oz.length x).1)/\Py w w' A X r d l (cR s k s.Oz.length x).2.1 (cR s k s.Oz.length x).2.2):=af (λW' hb =>
  (sK ((h.below Ub).below hb) hw s.Oz.length x (ah _) hx u ((hu.below Ub).below hb)).mono (by rintro e w' ⟨h1,h2⟩;exact ⟨h1,h2.trans ((Mv.below Ub).trans (Mv.below hb))⟩))
 have HE:Hid (gt s k x=(let p:=cR s k s.Oz.length x
  if p.1 then (let q:=cO p.2.1 p.2.2;(!q.1.done,q.1,q.2)) else p)):=af rfl
 have Su:u.oneCell'=true:=by
  obtain ⟨ao,c,rfl,_⟩:=hu;rfl
 have hlt:r<w.heap.size:=h.alt r (h.xA r h.rX);have Vk:(w.alloc (.cells #[.int .i64 x.Ow,u] 94)).cell? ⟨r,8,none⟩=some (.slice al s.Oz.length cl):=by
  rw [World.cell?_of_block (Ub.block r hlt)];exact Rq
 have P0:=aV w (.cells #[.int .i64 x.Ow,u] 94);have hb0:(w.alloc (.cells #[.int .i64 x.Ow,u] 94)).cell? ⟨w.heap.size,0,none⟩=some (.int .i64 x.Ow):=jn;have hb1:(w.alloc (.cells #[.int .i64 x.Ow,u] 94)).cell? ⟨w.heap.size,1,none⟩=some u:=jn;clear h hw hu Ub Rq P0 hx;generalize cR s k s.Oz.length x=q at *;obtain ⟨ok,s1,k1⟩:=q;unfold wP at *;generalize s.Oz.length=n at *;simp only at HE HP;cases ok with
 | false =>
  rw [am bL] at HE;go_enter Tryz.func79,Tryz.ntmps79
  go_upto_region 1 with (fail)
  generalize w.alloc (.cells #[.int .i64 x.Ow,u] 94)=W at *;refine wp_region_held_drew (S:=λ_=>True) dW trivial (λaD=>?_);refine aJ 0 ?_;refine aJ 1 ?_;refine aJ 2 ?_;refine aJ 3 ?_;refine mf 4 6 (λK hK=>?_) λK hK=>?_
  ·go_simp
   refine hK.out _ _ trivial (λaD=>?_);clear hK K;refine bX ?_;refine aJ 5 ?_;refine dh 6 λK hK=>?_;go_simp
   refine hK.out _ _ trivial (λaD=>?_);clear hK K;refine bX ?_;exact Ct
  ·go_simp
   refine hK.out _ _ trivial (λaD=>?_);clear hK K;refine bX ?_;refine dh 4 λK hK=>?_;go_simp
   refine hK.out _ _ trivial (λaD=>?_);clear hK K;refine bX ?_;refine aJ 5 ?_;exact Ct
 | true =>
  rw [ay rfl] at HE;have HS:=af (λ(W:World) (A1 X1:List Nat) (h:Nd W A1 X1 r d l s1 k1)=>qA h);generalize cO s1 k1=q at *;obtain ⟨s2,k2⟩:=q;simp only at HE HS;go_enter Tryz.func79,Tryz.ntmps79
  go_upto_region 1 with (fail)
  generalize w.alloc (.cells #[.int .i64 x.Ow,u] 94)=W at *;refine wp_region_held_drew (S:=λ_=>True) dW trivial (λaD=>?_);refine aJ 0 ?_;refine aJ 1 ?_;refine aJ 2 ?_;refine aJ 3 ?_;refine mf 4 6 (λK hK=>?_) λK hK=>?_
  ·go_simp
   refine hK.out _ _ trivial (λaD=>?_);clear hK K;refine bX ?_;refine aJ 5 ?_;refine dh 6 λK hK=>?_;go_simp
   refine hK.out _ _ trivial (λaD=>?_);clear hK K;refine bX ?_;exact Cr
  ·go_simp
   refine hK.out _ _ trivial (λaD=>?_);clear hK K;refine bX ?_;refine dh 4 λK hK=>?_;go_simp
   refine hK.out _ _ trivial (λaD=>?_);clear hK K;refine bX ?_;refine aJ 5 ?_;exact Cr
end
section
variable {w w':World} {A A' X X':List Nat} {r d l:Nat} {s s':Rp} {k k':Dk}
structure LogC (w:World) (A:List Nat) (r:Nat) (es:List Po) (g c:Nat) (i:Nat) (u:Value):Prop where
 c8:w.cell? ⟨r,8,none⟩=some (.slice (some ⟨g,0,none⟩) es.length c)
 le:es.length<=c
 cm:c<=9223372036854775807
 t:w.cell? ⟨g,i*2,none⟩=some (.int .i64 ((es.map Po.Ow).getD i 0))
 b:w.cell? ⟨g,i*2+1,none⟩=some u
 im:Qi w A u ((es.map Po.bs).getD i [])
theorem Nd.logC (h:Nd w A X r d l s k) (i:Nat) (hi:i<s.Oz.length):∃g c u,LogC w A r s.Oz g c i u:=by
 obtain ⟨D,L,R,vl,gv,gn,gm,gh,h,hX⟩:=h;rcases h.Oz with ⟨_,h0⟩ | ⟨g,c,cur,rfl,h1,h2,h3,h4,h5⟩
 ·rw [h0] at hi;cases hi
 ·obtain ⟨u,k1,k2,k3⟩:=h5 i hi;refine ⟨g,c,u,?_,h1,h2,?_,?_,?_⟩
  ·rw [ap h.cell];rfl
  ·rw [ap h4,iQ,k1];simp [List.getD,hi]
  ·rw [ap h4,iQ,k2]
  ·exact JB
theorem gg (h:Nd w A X r d l s k) (n:Nat) (hn:n<=s.Oz.length) (hb:s.Oz.length<=1000000):Calls Tryz.prog 68 #[.pointer (some ⟨r,0,none⟩),.int .i64 (n:Int)] w λe w'=>e = .returned (.int .i64 (bV s.Oz n))/\w=w':=by
 cases n with
 | zero =>
  clear h;go_enter Tryz.func68,Tryz.ntmps68
  exact oK
 | succ i =>
  obtain ⟨g,c,u,hc⟩:=h.logC i hn;have h8:=hc.c8;have ht:=hc.t;have hL:Hid (bV s.Oz (i+1)=(s.Oz.map Po.Ow).getD i 0):=af (by unfold bV;rw [am az];rfl);rw [hL.out];generalize (s.Oz.map Po.Ow).getD i 0=t at *;generalize s.Oz.length=n at *;have q0:((i:Int)+1==0)=false:=gD;have q1:IntKind.i64.wrap ((i:Int)+1 - 1)=(i:Int):=Nk;have q2:(i:Int)<(n:Int):=az;have q3:0<=(i:Int):=az;clear h hc hL;go_enter Tryz.func68,Tryz.ntmps68
  exact oK
theorem vI (h:Nd w A X r d l s k) (hn:s.n<=5) (m:Nat) (hm:m<=1000000):Calls Tryz.prog 99 #[.pointer (some ⟨r,0,none⟩),.int .i64 (m:Int)] w λe w'=>e = .returned (.bool (kO s m))/\w=w':=by
 obtain ⟨D,L,R,vl,gv,gn,gm,gh,h,hX⟩:=h;have hc:w.cell? ⟨r,1,none⟩=some (.int .i64 (s.n:Int)):=mU;have q1:IntKind.i64.wrap (2*(m:Int))=2*(m:Int):=IntWalk.i64_in _ az;have q2:Hid (decide ((s.n:Int)<2*(m:Int))=kO s m):=af (by unfold kO;congr 1;exact propext ⟨λh=>by omega,λh=>by omega⟩);clear h hX;go_enter Tryz.func99,Tryz.ntmps99
 go_wp2_with fail
 go_ret
 exact ⟨by rw [<-q2.out];rfl,rfl⟩
theorem wO (h:Nd w A X r d l s k) (f t:Int) (hf:0<=f) (hb:s.Oz.length<=1000000):Calls Tryz.prog 96 #[.pointer (some ⟨r,0,none⟩),.int .i64 f,.int .i64 t] w λe w'=>e = .returned (.bool (fN s f t))/\w=w':=by
 obtain ⟨al,cl,Rq,PH,hl2⟩:=h.Qd;have H:=af h;clear h;by_cases hle:f<=(s.Oz.length:Int)
 ·obtain ⟨n,rfl⟩:∃n:Nat,f=(n:Int):=⟨f.toNat,by omega⟩
  have hL:=af (gg H.out n az hb);have hF:Hid (fN s (n:Int) t=(bV s.Oz n==t)):=af (by unfold fN;rw [aO hle,bU];rfl);rw [hF.out];generalize bV s.Oz n=lt at *;go_enter Tryz.func96,Tryz.ntmps96
  go_wp2_with fail
  refine hL.out.mono ?_;rintro e w1 ⟨rfl,rfl⟩;exact oK
 ·have hF:Hid (fN s f t=false):=af (by unfold fN;rw [bp hle];rfl);go_enter Tryz.func96,Tryz.ntmps96
  go_wp2_with fail
  go_ret
  exact ⟨by rw [hF.out];rfl,rfl⟩
end
def Rg (s:Rp) (a:Nat):Rp:={ s with agreed:=a,many:=s.many+(recs ((s.Oz.take a).drop s.agreed)).length }
theorem FS (s:Rp):Rg s s.agreed=s:=by
 unfold Rg;rw [nH yd];rfl
theorem Ce (s:Rp) (n:Nat) (h:s.agreed<n):cI s n=Rg s n:=by unfold cI Rg;rw [ay h]
theorem tu (s:Rp) (n:Nat) (h:¬s.agreed<n):cI s n=s:=by unfold cI;rw [am h]
theorem FR (s:Rp) (a:Nat) (h:s.agreed<=a) (hl:a<s.Oz.length):Rg s (a+1)={ Rg s a with agreed:=a+1,many:=(Rg s a).many+(if ((s.Oz.map Po.bs).getD a []).length=0 then 0 else 1)}:=by
 have e:(s.Oz.take (a+1)).drop s.agreed=(s.Oz.take a).drop s.agreed++[s.Oz[a]]:=by
  rw [<-bO hl,qo yd]
 have e2:(s.Oz.map Po.bs).getD a []=s.Oz[a].bs:=by simp [List.getD,hl]
 unfold Rg;rw [e,e2];unfold recs;rw [cz,cy,aE];cases hb:s.Oz[a].bs with
 | nil=>simp [hb]
 | cons x y=>simp [hb];omega
def Ey (w:World) (r n:Nat):Nat:=match w.cell? ⟨r,9,none⟩ with | some v=>((n:Int) - intOf v).toNat | none=>0
section
variable {w w':World} {A A' X X':List Nat} {r d l:Nat} {s s':Rp} {k k':Dk}
theorem Nd.Um (h:Nd w A X r d l s k) (ho:Only [r] w w') (hc:∀vl gv gn gm gh,w.heap[r]? = some (.cells (fs d l s vl gv gn gm gh) 78 (0,0))->w'.heap[r]? = some (.cells (fs d l s' vl gv gn gm gh) 78 (0,0)))
  (h1:s'.wl=s.wl) (h2:s'.Oz=s.Oz) (h3:s'.OB=s.OB) (h4:s'.next=s.next) (h5:s'.OE=s.OE) (h6:s'.heard=s.heard):Nd w' A X r d l s' k:=by
 obtain ⟨D,L,R,vl,gv,gn,gm,gh,h,hX⟩:=h;exact (h.RT ho (hc _ _ _ _ _ h.cell) h1 h2 h3 h4 h5 h6).nd hX
theorem tt (h:Nd w A X r d l s k) (n:Nat) (hn:n<=s.Oz.length) (hb:s.Oz.length<=1000000) (hm:s.many<=s.agreed):Calls Tryz.prog 98 #[.pointer (some ⟨r,0,none⟩),.int .i64 (n:Int)] w λe w'=>Nd w' A X r d l (cI s n) k/\Only [r] w w'/\e = .returned (.tuple #[]):=by
 by_cases hlt:s.agreed<n
 ·have HE:=af (Ce s n hlt);have H0:=af h;have HN:=af hn;have HB:=af hb;have HM:Hid (∀a,(Rg s a).many<=s.agreed+(a - s.agreed)):=af (λa=>by
   show s.many+_<=_;have h1:(recs ((s.Oz.take a).drop s.agreed)).length<=a - s.agreed:=by
    unfold recs;rw [aW];refine aF (cX _ _) ?_;rw [cH,aQ];omega
   omega)
  clear h hn hb hm;go_enter Tryz.func98,Tryz.ntmps98
  go_wp2_with fail
  go_loopw [] (λwr=>∃a,s.agreed<=a/\a<=n/\Nd wr A X r d l (Rg s a) k/\Only [r] w wr) (λwr=>Ey wr r n)
  case atStart=>exact ⟨s.agreed,ah _,by omega,by rw [FS];exact H0.out,Only.refl _ _⟩
  case round =>
   obtain ⟨a,ha1,ha2,PO,ho⟩:=hrel;have hma:=HM.out a;have Tb:=HN.out;have hbb:=HB.out;obtain ⟨vl,gv,gn,gm,gh,hcell⟩:=PO.cells;have Q5:wr.cell? ⟨r,9,none⟩=some (.int .i64 (a:Int)):=iI;have YZ:wr.cell? ⟨r,10,none⟩=some (.int .i64 ((Rg s a).many:Int)):=iI;have hz9:=aU hcell 9;have hz10:=aU hcell 10;have HND:=af PO;have HO:=af ho;clear PO ho hcell;by_cases R2:a<n
   ·obtain ⟨g,c,u,hc⟩:=HND.out.logC a (show a<s.Oz.length by omega);have h8:=hc.c8;have hu:=hc.b;obtain ⟨au,cu,e,_⟩:=hc.im;subst e;have HST:=af (FR s a ha1 az);have e3:(Rg s a).Oz=s.Oz:=rfl;rw [e3] at h8 hu;have HMN:∃mn,mn=(Rg s a).many:=⟨_,rfl⟩
    obtain ⟨mn,ZM⟩:=HMN;rw [<-ZM] at hma YZ HST;have HMN:=af ZM;clear ZM;generalize SD:s.Oz.length=sl at *;have q1:(a:Int)<(sl:Int):=az;have q2:0<=(a:Int):=az;have q3:(a:Int)<(n:Int):=az;have q4:IntKind.i64.wrap ((a:Int)+1)=(a:Int)+1:=IntWalk.i64_in _ az;have q5:IntKind.i64.wrap ((mn:Int)+1)=(mn:Int)+1:=IntWalk.i64_in _ az;by_cases hz:((s.Oz.map Po.bs).getD a []).length=0
    ·rw [ay hz] at HST;generalize ((s.Oz.map Po.bs).getD a []).length=bl at *;subst hz;go_wp2_with fail
     go_quiet (fail)
     go_wp2_with fail
     have oo:Only [r] wr ((wr.drewN nq).setCell ⟨r,9,none⟩ (.int .i64 ((a:Int)+1))):=((Only.refl _ _).drewN nq).setCell bL _;refine ⟨⟨a+1,by omega,by omega,?_,HO.out.trans oo⟩,?_⟩
     ·rw [HST.out];refine Nd.Um HND.out oo ?_ rfl rfl rfl rfl rfl rfl;intro vl gv gn gm gh hc;rw [Di hc];simp [fs,HMN.out]
     ·obtain ⟨vl,gv,gn,gm,gh,hcell⟩:=HND.out.cells;unfold Ey;rw [Q5,ap (Di hcell nq 9 _)];simp [fs,intOf];omega
    ·rw [am hz] at HST;generalize ((s.Oz.map Po.bs).getD a []).length=bl at *;have g1:decide (0<bl)=true:=aO az;clear hz;go_wp2_with fail
     go_quiet (fail)
     go_wp2_with fail
     have oo:Only [r] wr (((wr.drewN nq).setCell ⟨r,10,none⟩ (.int .i64 ((mn:Int)+1))).setCell ⟨r,9,none⟩ (.int .i64 ((a:Int)+1))):=(((Only.refl _ _).drewN nq).setCell bL _).setCell bL _;refine ⟨⟨a+1,by omega,by omega,?_,HO.out.trans oo⟩,?_⟩
     ·rw [HST.out];refine Nd.Um HND.out oo ?_ rfl rfl rfl rfl rfl rfl;intro vl gv gn gm gh hc;rw [be (Di hc nq 10 _)];simp [fs]
     ·obtain ⟨vl,gv,gn,gm,gh,hcell⟩:=HND.out.cells;unfold Ey;rw [Q5,ap (be (Di hcell nq 10 _) 9 _)];simp [fs,intOf];omega
   ·have ha:a=n:=by omega
    subst ha;go_wp2_with fail
    go_end0
    rw [HE.out];exact ⟨HND.out,HO.out,rfl⟩
 ·have HE:=af (tu s n hlt);have H0:=af h;obtain ⟨vl,gv,gn,gm,gh,hcell⟩:=h.cells;have Q5:w.cell? ⟨r,9,none⟩=some (.int .i64 (s.agreed:Int)):=iI;exact MG
end
structure LogR (w:World) (A:List Nat) (r:Nat) (es:List Po) (ao:Option Addr) (c:Nat):Prop where
 c8:w.cell? ⟨r,8,none⟩=some (.slice ao es.length c)
 le:es.length<=c
 cm:c<=9223372036854775807
 nil:ao=none->c=0
 form:∀p,ao=some p->∃g,p=⟨g,0,none⟩
 at_:∀i,i<es.length->∀g,ao=some ⟨g,0,none⟩->∃u,w.cell? ⟨g,i*2,none⟩=some (.int .i64 ((es.map Po.Ow).getD i 0))/\w.cell? ⟨g,i*2+1,none⟩=some u/\Qi w A u ((es.map Po.bs).getD i [])
section
variable {w w':World} {A A' X X':List Nat} {r d l:Nat} {s s':Rp} {k k':Dk}
theorem Nd.Yy (h:Nd w A X r d l s k):∃ao c,LogR w A r s.Oz ao c:=by
 obtain ⟨D,L,R,vl,gv,gn,gm,gh,h,hX⟩:=h;obtain ⟨ao,c,e,h1,h2,h3,h4⟩:=qj h.Oz;refine ⟨ao,c,by rw [ap h.cell,<-e];rfl,h1,h2,h3,h4,λi hi g hg=>?_⟩;rcases h.Oz with ⟨_,h0⟩ | ⟨g',c',cur,e',_,_,_,h4,h5⟩
 ·rw [h0] at hi;cases hi
 ·rw [e] at e';subst hg;cases e';obtain ⟨u,k1,k2,k3⟩:=h5 i hi;refine ⟨u,?_,?_,?_⟩
  ·rw [ap h4,iQ,k1];simp [List.getD,hi]
  ·rw [ap h4,iQ,k2]
  ·exact JB
def mg (s:Rp) (j:Nat):Nat:=(((s.Oz.drop s.agreed).take j).filter λx=>x.Ow==s.Ow && !x.bs.isEmpty).length
theorem xX (s:Rp) (j:Nat) (h:s.agreed+j<s.Oz.length):mg s (j+1)=mg s j+(if ((s.Oz.map Po.Ow).getD (s.agreed+j) 0==s.Ow)=true/\((s.Oz.map Po.bs).getD (s.agreed+j) []).length≠0 then 1 else 0):=by
 have hl:j<(s.Oz.drop s.agreed).length:=Es;have e1:(s.Oz.map Po.Ow).getD (s.agreed+j) 0=(s.Oz.drop s.agreed)[j].Ow:=Eo;have e2:(s.Oz.map Po.bs).getD (s.agreed+j) []=(s.Oz.drop s.agreed)[j].bs:=Eo;rw [e1,e2];unfold mg;rw [<-bO hl,cz,aE];generalize (s.Oz.drop s.agreed)[j]=x;obtain ⟨t,bs⟩:=x;cases bs<;>by_cases ht:(t==s.Ow)=true<;>simp_all
theorem AV (s:Rp):mg s (s.Oz.length - s.agreed)=jC s:=by
 unfold mg jC;rw [bE (by rw [cH];exact ah _)]
theorem DF (s:Rp) (j:Nat):mg s j<=s.Oz.length:=by
 unfold mg;refine aF (cX _ _) ?_;rw [aQ,cH];omega
theorem DE (h:Nd w A X r d l s k) (ha:s.agreed<=s.Oz.length) (hb:s.Oz.length<=1000000):Calls Tryz.prog 78 #[.pointer (some ⟨r,0,none⟩)] w λe w'=>e = .returned (.int .i64 (jC s:Int))/\Below w.heap.size w w':=by
 obtain ⟨ao,c,Qp⟩:=h.Yy;have Rq:=Qp.c8;have hle:=Qp.le;have hcm:=Qp.cm;obtain ⟨vl,gv,gn,gm,gh,hcell⟩:=h.cells;have Q5:w.cell? ⟨r,9,none⟩=some (.int .i64 (s.agreed:Int)):=iI;have Re:w.cell? ⟨r,6,none⟩=some (.int .i64 s.Ow):=iI;have HL:=af Qp;have SQ:=af (AV s);have HSTEP:=af (xX s);have HCLE:=af (DF s);have H0:Hid (mg s 0=0):=af (by simp [mg]);clear h Qp hcell;generalize mg s=cnt at *;generalize jC s=om at *;generalize SD:s.Oz.length=sl at *;generalize s.agreed=ag at *;generalize s.Ow=st at *;have q1:(ag:Int)<=(sl:Int):=az;have q2:0<=(ag:Int):=az;have q3:ag<=c:=az;by_cases hce:c=ag
 ·have hsa:sl=ag:=by omega
  subst hce hsa;have HR:Hid (cnt 0=om):=af (by have:=SQ.out;rwa [F6] at this);go_enter Tryz.func78,Tryz.ntmps78
  go_upto_region 2 with (fail)
  go_quiet (fail)
  go_wp2_with fail
  go_loopw [16,3] (λi n wr=>i = .int .i64 0/\n = .int .i64 0/\Below w.heap.size w wr) (λ_ _ _=>0)
  case atStart=>exact ⟨rfl,rfl,aB _ _⟩
  case round =>
   obtain ⟨rfl,rfl,hbl⟩:=hrel;go_wp2_with fail
   go_ret
   exact ⟨by rw [<-HR.out,H0.out];rfl,hbl⟩
 ·obtain ⟨p,rfl⟩:∃p,ao=some p:=by
   cases ao with
   | none=>have:=HL.out.nil rfl;omega
   | some p=>exact ⟨p,rfl⟩
  obtain ⟨g,rfl⟩:=HL.out.form p rfl;go_enter Tryz.func78,Tryz.ntmps78
  go_upto_region 2 with (fail)
  go_quiet (fail)
  go_wp2_with fail
  go_loopw [16,3] (λi n wr=>∃j:Nat,j<=sl - ag/\i = .int .i64 (j:Int)/\n = .int .i64 (cnt j:Int)/\Below w.heap.size w wr) (λi _ _=>sl - ag - (intOf i).toNat)
  case atStart=>exact ⟨0,aH _,rfl,by rw [H0.out];rfl,aB _ _⟩
  case round =>
   obtain ⟨j,hj,rfl,rfl,hbl⟩:=hrel;have Q0:=af hbl;clear hbl;by_cases hlt:j<sl - ag
   ·obtain ⟨u,Su,PN,Qz⟩:=HL.out.at_ (ag+j) az g rfl;have hst:=HSTEP.out j az;obtain ⟨au,cu,e,_⟩:=Qz;subst e;have Su:=cell_later Q0.out Su;have PN:=cell_later Q0.out PN;have hk6:=cell_later Q0.out Re;have hcj:=HCLE.out j;generalize (s.Oz.map Po.Ow).getD (ag+j) 0=t at *;generalize ((s.Oz.map Po.bs).getD (ag+j) []).length=bl at *;have q5:(j:Int)<((sl - ag:Nat):Int):=az;have q6:IntKind.i64.wrap ((j:Int)+1)=(j:Int)+1:=IntWalk.i64_in _ az;have q8:IntKind.i64.wrap ((cnt j:Int)+1)=(cnt j:Int)+1:=IntWalk.i64_in _ az;have q9:(ag+j)*2=ag*2+j*2:=az;rw [q9] at Su PN;have HST:=af hst;clear hst hcj;generalize cnt j=cj at *;have O5:∀q,Below w.heap.size w ((wr.alloc (.cells #[.int .i64 t,.slice au bl cu] 94)).drewN q):=λq=>(Q0.out.alloc Q0.out.size _).trans ((aB _ q).mono (Q0.out.alloc Q0.out.size _).size);have O5:=af O5;have Xt:(wr.alloc (.cells #[.int .i64 t,.slice au bl cu] 94)).cell? ⟨wr.heap.size,0,none⟩=some (.int .i64 t):=vP;have TE:(wr.alloc (.cells #[.int .i64 t,.slice au bl cu] 94)).cell? ⟨wr.heap.size,1,none⟩=some (.slice au bl cu):=vP;have hy6:(wr.alloc (.cells #[.int .i64 t,.slice au bl cu] 94)).cell? ⟨r,6,none⟩=some (.int .i64 st):=cell_later ((aG _ _).alloc (ah _) _) hk6;by_cases ht:t=st
    ·have g1:(t==st)=true:=by simpa using ht
     clear ht;by_cases hz:bl=0
     ·subst hz;rw [am bL] at HST;go_wp2_with fail
      generalize wr.alloc (.cells #[.int .i64 t,.slice au 0 cu] 94)=W2 at *;exact KD
     ·rw [ay ⟨g1,hz⟩] at HST;have g2:decide (0<bl)=true:=aO az;go_wp2_with fail
      generalize wr.alloc (.cells #[.int .i64 t,.slice au bl cu] 94)=W2 at *;exact KD
    ·have g1:(t==st)=false:=by simpa using ht
     clear ht;rw [am (by rw [g1];simp)] at HST;go_wp2_with fail
     generalize wr.alloc (.cells #[.int .i64 t,.slice au bl cu] 94)=W2 at *;exact KD
   ·have Tv:j=sl - ag:=by omega
    have q7:¬((j:Int)<(sl:Int) - (ag:Int)):=az;have HR:Hid (cnt j=om):=af (by rw [Tv];exact SQ.out);clear hlt Tv q1 q2 q3;go_wp2_with fail
    go_ret
    exact ⟨by rw [<-HR.out];rfl,Q0.out⟩
end
theorem sN (l:List Nat) (i x:Nat):(jZ l).setIfInBounds i (.int .i64 (x:Int))=jZ (l.set i x):=by
 unfold jZ;rw [eY,List.map_set]
theorem yU (l:List Bool) (i:Nat) (x:Bool):(eg l).setIfInBounds i (.bool x)=eg (l.set i x):=by
 unfold eg;rw [eY,List.map_set]
theorem iH (l:List Nat) (i:Nat) (h:i<l.length):(jZ l)[i]? = some (.int .i64 (l.getD i 0:Int)):=by
 unfold jZ;simp [h]
theorem pC (l:List Bool) (i:Nat) (h:i<l.length):(eg l)[i]? = some (.bool (l.getD i false)):=by
 unfold eg;simp [h]
section
variable {w w':World} {A A' X X' D L R:List Nat} {r d l:Nat} {s s':Rp} {k k':Dk} {vl:Value} {gv gn gm gh:Nat}
theorem QK.WG (h:QK w A D L R r d l s k vl gv gn gm gh) (i x:Nat):QK (w.setCell ⟨gm,i,none⟩ (.int .i64 (x:Int))) A D L R r d l { s with OE:=s.OE.set i x } k vl gv gn gm gh:=by
 have ho:Only [gm] w (w.setCell ⟨gm,i,none⟩ (.int .i64 (x:Int))):=(Only.refl _ _).setCell bL _;have hS:∀b∈[gm],b∈R:=λb hb=>by rw [aj.1 hb];exact h.mR
 exact ⟨h.Ry ho hS,ho.keeps h.cell (by simpa using cQ h.cell h.OE dZ),h.Oz.step ho (λb hb=>h.rA b (hS b hb)) (Ext.refl _ _),ho.keeps h.OB (by simpa using cQ h.OB h.OE dZ),
  ho.keeps h.next (by simpa using h.nm),by rw [be h.OE,sN],ho.keeps h.heard (by simpa using cQ h.heard h.OE dZ),h.nm,h.rR,h.vR,h.nR,h.mR,h.hR,h.Yi,h.Yh,h.rA⟩
theorem QK.U6 (h:QK w A D L R r d l s k vl gv gn gm gh) (i x:Nat):QK (w.setCell ⟨gn,i,none⟩ (.int .i64 (x:Int))) A D L R r d l { s with next:=s.next.set i x } k vl gv gn gm gh:=by
 have ho:Only [gn] w (w.setCell ⟨gn,i,none⟩ (.int .i64 (x:Int))):=(Only.refl _ _).setCell bL _;have hS:∀b∈[gn],b∈R:=λb hb=>by rw [aj.1 hb];exact h.nR
 exact ⟨h.Ry ho hS,ho.keeps h.cell (by simpa using cQ h.cell h.next dZ),h.Oz.step ho (λb hb=>h.rA b (hS b hb)) (Ext.refl _ _),ho.keeps h.OB (by simpa using cQ h.OB h.next dZ),
  by rw [be h.next,sN],ho.keeps h.OE (by simpa using h.nm.symm),ho.keeps h.heard (by simpa using cQ h.heard h.next dZ),h.nm,h.rR,h.vR,h.nR,h.mR,h.hR,h.Yi,h.Yh,h.rA⟩
theorem QK.Uk (h:QK w A D L R r d l s k vl gv gn gm gh) (i:Nat) (x:Bool):QK (w.setCell ⟨gv,i,none⟩ (.bool x)) A D L R r d l { s with OB:=s.OB.set i x } k vl gv gn gm gh:=by
 have ho:Only [gv] w (w.setCell ⟨gv,i,none⟩ (.bool x)):=(Only.refl _ _).setCell bL _;have hS:∀b∈[gv],b∈R:=λb hb=>by rw [aj.1 hb];exact h.vR
 exact ⟨h.Ry ho hS,ho.keeps h.cell (by simpa using cQ h.cell h.OB dZ),h.Oz.step ho (λb hb=>h.rA b (hS b hb)) (Ext.refl _ _),by rw [be h.OB,yU],
  ho.keeps h.next (by simpa using cQ h.next h.OB dZ),ho.keeps h.OE (by simpa using cQ h.OE h.OB dZ),ho.keeps h.heard (by simpa using cQ h.heard h.OB dZ),h.nm,h.rR,h.vR,h.nR,h.mR,h.hR,h.Yi,h.Yh,h.rA⟩
theorem QK.ndpR (h':QK w' A D L R r d l s' k' vl gv gn gm gh) (hX:∀b,b∈X↔b∈D\/b∈L\/b∈R) {S:List Nat} (ho:Only S w w') (hS:∀b∈S,b∈R):Py w w' A X r d l s' k' :=
 (h'.nd hX).VJ (Mv.only ho (λb hb=>(hX b).2 (.inr (.inr (hS b hb)))))
def jH (s:Rp) (j:Nat):Nat:=((s.OB.take j).filter id).length
theorem uW (s:Rp) (j:Nat) (h:j<s.OB.length):jH s (j+1)=jH s j+(if s.OB.getD j false then 1 else 0):=by
 have e:s.OB.getD j false=s.OB[j]:=Eo;unfold jH;rw [e,<-bO h,cz,aE];cases s.OB[j]<;>simp
theorem rG (h:Nd w A X r d l s k) (hn:s.n<=5) (hv:s.OB.length=s.n):Calls Tryz.prog 90 #[.pointer (some ⟨r,0,none⟩)] w λe w'=>e = .returned (.bool (gI s))/\w=w':=by
 have H:=af h;obtain ⟨D,L,R,vl,gv,gn,gm,gh,h,hX⟩:=h;have Ua:w.cell? ⟨r,12,none⟩=some (.slice (some ⟨gv,0,none⟩) s.n s.n):=mU;have HV:Hid (∀i,i<s.n->w.cell? ⟨gv,i,none⟩=some (.bool (s.OB.getD i false))):=af (λi hi=>by rw [ap h.OB];exact pC _ _ az);have HST:=af (λj (hj:j<s.n)=>uW s j az);have HCL:Hid (∀j,jH s j<=s.n):=af (λj=>by
  unfold jH;refine aF (cX _ _) ?_;rw [aQ];omega)
 have H0:Hid (jH s 0=0):=af (by simp [jH]);have HR:Hid (kO s (jH s s.n)=gI s):=af (by unfold gI jH;rw [bE az]);have HM:=af (λm (hm:m<=s.n)=>vI H.out hn m az);clear h hX hv;generalize gI s=ch at *;generalize jH s=cnt at *;generalize kO s=mo at *;generalize ZI:s.n=n at *;go_enter Tryz.func90,Tryz.ntmps90
 go_wp2_with fail
 go_loopw [11,3] (λi m wr=>∃j:Nat,j<=n/\i = .int .i64 (j:Int)/\m = .int .i64 (cnt j:Int)/\wr=w) (λi _ _=>n - (intOf i).toNat)
 case atStart=>exact ⟨0,aH _,rfl,by rw [H0.out];rfl,rfl⟩
 case round =>
  obtain ⟨j,hj,rfl,rfl,rfl⟩:=hrel;by_cases hlt:j<n
  ·have hv:=HV.out j hlt;have hst:=HST.out j hlt;have Sw:=HCL.out j;have q6:IntKind.i64.wrap ((j:Int)+1)=(j:Int)+1:=IntWalk.i64_in _ az;have q8:IntKind.i64.wrap ((cnt j:Int)+1)=(cnt j:Int)+1:=IntWalk.i64_in _ az;have q5:(j:Int)<(n:Int):=az;have HJ:=af hst;clear hst Sw;generalize cnt j=cj at *;cases hb:s.OB.getD j false with
   | false =>
    exact Ml
   | true =>
    exact Ml
  ·obtain rfl:j=n:=by omega
   go_wp2_with fail
   refine (HM.out _ (HCL.out _)).mono ?_;rintro e w1 ⟨rfl,rfl⟩;go_wp2_with fail
   go_ret
   exact ⟨by rw [<-HR.out];rfl,rfl⟩
end
def BL (s:Rp) (k j:Nat):Nat:=fI (s.OE.take j) k
theorem Fg (s:Rp) (k j:Nat) (h:j<s.OE.length):BL s k (j+1)=BL s k j+(if k<=s.OE.getD j 0 then 1 else 0):=by
 have e:s.OE.getD j 0=s.OE[j]:=Eo;unfold BL fI;rw [e,<-bO h,cz,aE];by_cases hk:k<=s.OE[j]<;>simp [hk]
theorem qD (s:Rp) (k:Nat) (h:¬(s.agreed<k/\bV s.Oz k=s.Ow)):OQ s k=none:=by
 cases k with
 | zero=>rfl
 | succ k=>unfold OQ;rw [am h]
theorem vh (s:Rp) (k:Nat) (h:s.agreed<k/\bV s.Oz k=s.Ow):OQ s k=if kO s (fI s.OE k) then some k else OQ s (k - 1):=by
 cases k with
 | zero=>have:=h.1;omega
 | succ k=>rw [OQ,ay h];rfl
section
variable {w w':World} {A A' X X':List Nat} {r d l:Nat} {s s':Rp} {k k':Dk}
theorem my (h:Nd w A X r d l s k) (hw:Wf s k):Calls Tryz.prog 80 #[.pointer (some ⟨r,0,none⟩)] w λe w'=>e = .returned (.bool (bZ s).1)/\Py w w' A X r d l (bZ s).2 k:=by
 obtain ⟨al,cl,Rq,PH,hl2⟩:=h.Qd;have HX:=af h.rX;obtain ⟨D,L,R,vl,gv,gn,gm,gh,h,hX⟩:=h;have hc0:w.cell? ⟨r,0,none⟩=some (.int .i64 (s.own:Int)):=mU;have hc14:w.cell? ⟨r,14,none⟩=some (.slice (some ⟨gm,0,none⟩) s.n s.n):=mU;have hcm:w.cell? ⟨gm,s.own,none⟩=some (.int .i64 (s.OE.getD s.own 0:Int)):=by rw [ap h.OE];exact iH _ _ (by rw [hw.ml];exact hw.own)
 have hzm:=aU h.OE s.own;have VE:Hid (∀w1,w1=(w.setCell ⟨gm,s.own,none⟩ (.int .i64 (s.Oz.length:Int))).drew->Py w w1 A X r d l { s with OE:=s.OE.set s.own s.Oz.length } k):=af (λw1 e=>by
  subst e;exact ((h.WG s.own s.Oz.length).below (aB _ 1)).ndpR hX (S:=[gm]) (((Only.refl _ _).setCell bL _).drewN 1) (λb hb=>by rw [aj.1 hb];exact h.mR))
 have HK1:Hid (∀w1,w1=(w.setCell ⟨gm,s.own,none⟩ (.int .i64 (s.Oz.length:Int))).drew->w1.cell? ⟨r,14,none⟩=some (.slice (some ⟨gm,0,none⟩) s.n s.n)/\w1.cell? ⟨r,0,none⟩=some (.int .i64 (s.own:Int))/\w1.cell? ⟨r,8,none⟩=some (.slice al s.Oz.length cl)):=af (λw1 e=>by
  have ho:Only [gm] w w1:=by rw [e];exact ((Only.refl _ _).setCell bL _).drewN 1
  have hne:r∉[gm]:=by simpa using cQ h.cell h.OE dZ
  exact ⟨ho.cell hc14 hne,ho.cell hc0 hne,ho.cell Rq hne⟩)
 have Ze:Hid (Wf { s with OE:=s.OE.set s.own s.Oz.length } k/\True):=af ⟨⟨hw.n1,hw.n5,hw.own,hw.vl,hw.nl,by simpa using hw.ml,hw.hl,hw.room,hw.RQ,hw.Uv,hw.RU,hw.Rg,hw.VK,λhl i=>⟨(hw.lead hl i).1,by
   show (s.OE.set s.own s.Oz.length).getD i 0<=s.Oz.length;have:=(hw.lead hl i).2;rw [aL,jA] at *;split
   ·split<;>simp
   ·exact this⟩,hw.Ql,hw.Qy,hw.Yj,hw.Th,hw.Rk,hw.tick,hw.Sc⟩,trivial⟩
 have HE:Hid (bZ s=match OQ { s with OE:=s.OE.set s.own s.Oz.length } s.Oz.length with
  | some k=>(true,cI { s with OE:=s.OE.set s.own s.Oz.length } k)
  | none=>(false,{ s with OE:=s.OE.set s.own s.Oz.length })):=af rfl
 have hown:(s.own:Int)<(s.n:Int):=by have:=hw.own;omega
 have O8:=hw.n5;clear h hX hw;generalize hs1:({ s with OE:=s.OE.set s.own s.Oz.length }:Rp)=s1 at *;generalize s.OE.getD s.own 0=om at *;have Ri:Hid (s1.n=s.n/\s1.Oz=s.Oz):=af (by rw [<-hs1];exact ⟨rfl,rfl⟩);clear hs1;generalize SD:s.Oz.length=sl at *;generalize ZI:s.n=n at *;generalize s.own=ow at *;go_enter Tryz.func80,Tryz.ntmps80
 go_upto_region 1 with (fail)
 refine wp_region_held_drew (S:=λw'=>w'.cell? ⟨r,14,none⟩=some (.slice (some ⟨gm,0,none⟩) n n)/\w'.cell? ⟨r,0,none⟩=some (.int .i64 (ow:Int))/\w'.cell? ⟨r,8,none⟩=some (.slice al sl cl)) dW ⟨hc14,hc0,Rq⟩ (λaD=>?_);refine aJ 0 ?_;refine aJ 1 ?_;refine aJ 2 ?_;refine aJ 3 ?_;refine aJ 4 ?_;refine aJ 5 ?_;refine aJ 6 ?_;refine aJ 7 ?_;refine aJ 8 ?_;refine aJ 9 ?_;refine aJ 10 ?_;refine aJ 11 ?_;refine aJ 12 ?_;refine aJ 13 ?_;refine dh 14 λK hK=>?_;go_simp
 refine hK.out _ _ (HK1.out _ rfl) (λaD=>?_);clear hK K;refine bX ?_;refine iX ?_;clear aD;go_wp2_with fail
 have PT:=VE.out _ rfl;generalize (w.setCell ⟨gm,ow,none⟩ (.int .i64 (sl:Int))).drew=w1 at *;obtain ⟨A1,X1,h1,m1⟩:=PT;have H1:=af h1;have M1:=af m1;obtain ⟨a2,c2,Qp⟩:=h1.Yy;have Ww:=af Qp;have RG:=Qp.c8;have hle2:=Qp.le;have hcm2:=Qp.cm;have HW1:=af Ze.out.1;obtain ⟨D1,L1,R1,vl1,gv1,gn1,gm1,gh1,h2,hX2⟩:=h1;have hk9:w1.cell? ⟨r,9,none⟩=some (.int .i64 (s1.agreed:Int)):=yf;have hk6:w1.cell? ⟨r,6,none⟩=some (.int .i64 s1.Ow):=yf;have Te:w1.cell? ⟨r,14,none⟩=some (.slice (some ⟨gm1,0,none⟩) s1.n s1.n):=yf;have Va:=Ri.out.1;have hs1l:s1.Oz.length=sl:=by rw [Ri.out.2];exact SD
 have HV:Hid (∀i,i<n->w1.cell? ⟨gm1,i,none⟩=some (.int .i64 (s1.OE.getD i 0:Int))):=af (λi hi=>by rw [ap h2.OE];exact iH _ _ (by rw [HW1.out.ml,Va];exact hi));have hslb:sl<=1000000:=by have:=HW1.out.QV;omega
 have HST:=af (λk j (hj:j<n)=>Fg s1 k j (by rw [HW1.out.ml,Va];exact hj));have HCL:Hid (∀k j,BL s1 k j<=n):=af (λk j=>by
  unfold BL fI;refine aF (cX _ _) ?_;rw [aQ,HW1.out.ml,Va];omega)
 have HC0:Hid (∀k,BL s1 k 0=0):=af (λk=>by simp [BL,fI]);have HCN:Hid (∀k,BL s1 k n=fI s1.OE k):=af (λk=>by unfold BL;rw [bE (by rw [HW1.out.ml,Va];exact ah _)]);have HMO:=af (λq m (hm:m<=n)=>vI (H1.out.below (aB w1 q)) (by rw [Va];exact O8) m az);have Xn:=af (λq m (hm:m<=sl)=>tt (H1.out.below (aB w1 q)) m az az (by have h3:=HW1.out.VK;have h4:s1.many<=s1.agreed:=(by rw [h3];unfold recs;rw [aW];exact aF (cX _ _) yd);exact h4));rw [hs1l] at RG hle2;rw [Va] at Te;clear h2 hX2 Qp m1 hc0 Rq hc14 hcm hzm hown;go_wp2_with fail
 go_loopw [3] (λkk wr=>∃j:Nat,j<=sl/\kk = .int .i64 (j:Int)/\OQ s1 sl=OQ s1 j/\∃q,wr=w1.drewN q) (λkk _=>(intOf kk).toNat)
 case atStart=>exact ⟨sl,ah _,rfl,rfl,0,rfl⟩
 case round =>
  obtain ⟨j,hj,rfl,XZ,q,rfl⟩:=hrel;have HSF:=af XZ;clear XZ;by_cases QJ:s1.agreed<j
  ·obtain ⟨i,rfl⟩:∃i,j=i+1:=⟨j - 1,by omega⟩
   obtain ⟨p,rfl⟩:∃p,a2=some p:=by
    cases a2 with
    | none=>have:=Ww.out.nil rfl;omega
    | some p=>exact ⟨p,rfl⟩
   obtain ⟨g,rfl⟩:=Ww.out.form p rfl;obtain ⟨u,Su,_,_⟩:=Ww.out.at_ i az g rfl;have Ty:Hid (bV s1.Oz (i+1)=(s1.Oz.map Po.Ow).getD i 0):=af (by unfold bV;rw [am az];rfl);have HY:=af (λ(ht:(s1.Oz.map Po.Ow).getD i 0=s1.Ow)=>vh s1 (i+1) ⟨QJ,by rw [Ty.out];exact ht⟩);have Zm:=af (λ(ht:¬(s1.Oz.map Po.Ow).getD i 0=s1.Ow)=>qD s1 (i+1) (λh=>ht (by rw [<-Ty.out];exact h.2)));clear Ty;generalize (s1.Oz.map Po.Ow).getD i 0=t at *;have q1:IntKind.i64.wrap ((i:Int)+1 - 1)=(i:Int):=Nk;have q2:(i:Int)<(sl:Int):=az;have q3:0<=(i:Int):=az;have g0:decide ((s1.agreed:Int)<(i:Int)+1)=true:=aO az;by_cases ht:t=s1.Ow
   ·have g1:(t==s1.Ow)=true:=by simpa using ht
    have HY:=af (HY.out ht);clear ht Zm;go_wp2_with fail
    go_quiet (fail)
    go_wp2_with fail
    go_loopw [55,4] (λx m wr=>∃b:Nat,b<=n/\x = .int .i64 (b:Int)/\m = .int .i64 (BL s1 (i+1) b:Int)/\wr=w1.drewN (q+nq)) (λx _ _=>n - (intOf x).toNat)
    case atStart=>exact ⟨0,aH _,rfl,by rw [HC0.out];rfl,rfl⟩
    case round =>
     obtain ⟨b,hb,rfl,rfl,rfl⟩:=hrel;by_cases hlt:b<n
     ·have hv:=HV.out b hlt;have HJ:=af (HST.out (i+1) b hlt);have Sw:=HCL.out (i+1) b;have r1:IntKind.i64.wrap ((b:Int)+1)=(b:Int)+1:=IntWalk.i64_in _ az;have r2:IntKind.i64.wrap ((BL s1 (i+1) b:Int)+1)=(BL s1 (i+1) b:Int)+1:=IntWalk.i64_in _ az;have r3:(b:Int)<(n:Int):=az;generalize BL s1 (i+1) b=cj at *;generalize s1.OE.getD b 0=mb at *;by_cases Qv:i+1<=mb
      ·have r4:(i:Int)+1<=(mb:Int):=by omega
       rw [ay Qv] at HJ;exact Mj
      ·have r4:¬((i:Int)+1<=(mb:Int)):=by omega
       rw [am Qv] at HJ;exact Mj
     ·obtain rfl:b=n:=by omega
      have Sw:=HCL.out (i+1) b;have UY:=HCN.out (i+1);rw [UY] at Sw ⊢;generalize fI s1.OE (i+1)=cg at *;go_wp2_with fail
      refine (HMO.out (q+nq) cg Sw).mono ?_;rintro e w5 ⟨rfl,rfl⟩;cases hmo:kO s1 cg with
      | true =>
       rw [hmo,ay rfl] at HY;go_wp2_with fail
       refine (Xn.out (q+nq) (i+1) az).mono ?_;rintro e w6 ⟨hn6,Ta,rfl⟩;have H6:=af hn6;have HO6:=af Ta;clear hn6 Ta;go_wp2_with fail
       go_ret
       rw [HE.out,HSF.out,HY.out];exact ⟨rfl,Py.trans (M1.out.trans (Mv.below (aB _ _))) (H6.out.here HO6.out H1.out.rX)⟩
      | false =>
       rw [hmo,am bL,Nat.add_sub_cancel] at HY;have HZ:=af (HSF.out.trans HY.out);go_wp2_with fail
       go_roundw
       case rel=>exact ⟨i,by omega,rfl,HZ.out,_,rfl⟩
       case measure=>simp [intOf]
   ·have g1:(t==s1.Ow)=false:=by simpa using ht
    have Zm:=af (Zm.out ht);clear ht HY;exact ML
  ·have Zm:=af (qD s1 j (λh=>QJ h.1));have g0:decide ((s1.agreed:Int)<(j:Int))=false:=bp az;exact ML
end
theorem fG {w:World} {base:Nat} {e:TypeId} {k:Nat} {v:Value} {n:Nat} {xs:List Value} (h:w.ownsRow base e k v n xs) {j:Nat} (hj:v.ownBlock=some j):base<=j/\∃cur,w.heap[j]? = some (.cells cur e (0,0)):=by
 rcases h.2 with ⟨rfl,_⟩ | ⟨g,cap,cur,rfl,hb,hh,_⟩
 ·simp [Value.ownBlock] at hj
 ·simp [Value.ownBlock] at hj;subst hj;exact ⟨hb,cur,hh⟩
theorem fw {w:World} {base base':Nat} {e:TypeId} {k:Nat} {v:Value} {n:Nat} {xs:List Value} (h:w.ownsRow base e k v n xs) (hb:base'<=base):w.ownsRow base' e k v n xs:=by
 refine ⟨h.1,?_⟩;rcases h.2 with h2 | ⟨g,cap,cur,rfl,hg,r⟩
 ·exact .inl h2
 ·exact .inr ⟨g,cap,cur,rfl,aF hb hg,r⟩
def PC (w:World) (base:Nat) (v:Value) (ls:List (List UInt8)):Prop :=
 ∃vs:List Value,vs.length=ls.length/\w.ownsRow base 31 1 v ls.length vs/\(∀u∈vs,u.oneCell'=true)/\∀i,i<ls.length->OW w base 5 (vs.getD i undef) (ls.getD i [])
theorem PC.nil (w:World) (base:Nat):PC w base (.slice none 0 0) []:=⟨[],rfl,World.ownsRow_nil _ _ _ _,(λu hu=>by cases hu),(λi hi=>by simp at hi)⟩
theorem fk {w w':World} {base:Nat} {e:TypeId} {k n:Nat} {v:Value} {xs:List Value} (h:w.ownsRow base e k v n xs) {S:List Nat} (ho:Only S w w') (hs:∀j∈S,∀cur,w.heap[j]? ≠ some (.cells cur e (0,0))):w'.ownsRow base e k v n xs :=
 bR h ho λb hb hm=>by
  obtain ⟨_,cur,hc⟩:=fG h hb;exact hs b hm cur hc
theorem ji {w w':World} {base:Nat} {e:TypeId} {k n:Nat} {v:Value} {xs:List Value} (h:w.ownsRow base e k v n xs) (hb:Below w.heap.size w w'):w'.ownsRow base e k v n xs :=
 bR h (Only.OL hb []) (λb _=>by simp)
theorem mC {w w':World} {base b2:Nat} {e e2:TypeId} {size n s2 n2:Nat} {v v2:Value} {xs x2:List Value} (h:w.ownsRow base e size v n xs) (h2:w.ownsRow b2 e2 s2 v2 n2 x2) (hne:e≠e2) (hg:w.grownBy w' v2.ownBlock):w'.ownsRow base e size v n xs:=by
 refine ⟨h.1,?_⟩;rcases h.2 with h3 | ⟨g,cap,cur,rfl,hg1,hh,r⟩
 ·exact .inl h3
 ·refine .inr ⟨g,cap,cur,rfl,hg1,?_,r⟩;rw [hg.block g (bg hh) (λhe=>?_)]
  ·exact hh
  ·obtain ⟨_,cur2,hh2⟩:=fG h2 he.symm;rw [hh] at hh2;cases hh2;exact hne rfl
theorem PC.only {w w':World} {base:Nat} {v:Value} {ls:List (List UInt8)} (h:PC w base v ls) {S:List Nat} (ho:Only S w w') (hs:∀j∈S,∀cur,w.heap[j]? ≠ some (.cells cur 31 (0,0))/\w.heap[j]? ≠ some (.cells cur 5 (0,0))):PC w' base v ls:=by
 obtain ⟨vs,h1,h2,h3,h4⟩:=h;exact ⟨vs,h1,fk h2 ho (λj hj cur=>(hs j hj cur).1),h3,λi hi=>fk (h4 i hi) ho (λj hj cur=>(hs j hj cur).2)⟩
theorem PC.below {w w':World} {base:Nat} {v:Value} {ls:List (List UInt8)} (h:PC w base v ls) (hb:Below w.heap.size w w'):PC w' base v ls :=
 h.only (Only.OL hb []) (λj hj=>by cases hj)
theorem PC.mono {w:World} {base base':Nat} {v:Value} {ls:List (List UInt8)} (h:PC w base v ls) (hb:base'<=base):PC w base' v ls:=by
 obtain ⟨vs,h1,h2,h3,h4⟩:=h;exact ⟨vs,h1,fw h2 hb,h3,λi hi=>(h4 i hi).mono hb⟩
theorem PC.shape {w:World} {base:Nat} {v:Value} {ls:List (List UInt8)} (h:PC w base v ls):∃ao c,v = .slice ao ls.length c/\ls.length<=c/\c<=9223372036854775807:=by
 obtain ⟨vs,h1,⟨_,h2⟩,h3,h4⟩:=h;rcases h2 with ⟨rfl,h0⟩ | ⟨g,cap,cur,rfl,hb,hh,hn,hm,hs,ht⟩
 ·exact ⟨none,0,by rw [h0],by omega,by decide⟩
 ·unfold maxLen at hm;exact ⟨_,cap,rfl,hn,by omega⟩
theorem dU {w:World} {ops:Array Oper} {rest:List Oper} {o:Oper} {a:Act} {Q:Exit->Act->World->Prop} (hgd:o.guard=none) (s x:Operand)
  (ho:o.op = .call { callee:=.builtin .append,args:=#[s,x],argTypes:=#[29,29]})
  (base:Nat) (v:Value) (ls:List (List UInt8)) (hs:a.eval s=v) (hown:PC w base v ls)
  (H:Nat) (u:Value) (l:List UInt8) (hx:a.eval x = .slice (some ⟨H,0,none⟩) 1 1) (hcell:w.cell? ⟨H,0,none⟩=some u) (Ur:OW w base 5 u l)
  (hbytes:ls.length+1<=1000000) (hbase:base<=w.heap.size)
  (h:∀ao c w',PC w' base (.slice ao (ls.length+1) c) (ls++[l])->Below base w w'->w.grownBy w' v.ownBlock->wpList Tryz.prog ops Q rest (a.put o.dst (.slice ao (ls.length+1) c)) w'):wpList Tryz.prog ops Q (o::rest) a w:=by
 obtain ⟨i0,Q4,hz0,hz1,hz2⟩:=info_parts F.EY;obtain ⟨vs,h1,h2,h3,h4⟩:=hown;have PL:u.oneCell'=true:=by
  obtain ⟨ao,c,rfl,_⟩:=Ur.S9;rfl
 refine wpList_append_own w hgd s x 29 ho base 31 i0 (.slice none 0 0) 1 24 Tryz.underlying29 Q4 hz0 hz1 hz2 rfl dZ v _ _ hs h2 ⟨H,0,none⟩ 1 1 [u] hx rfl ?_ ?_ kE az hbase ?_
 ·intro j y hj
  match j,hj with
  | 0,hj=>rw [Addr.add_lit];simp at hj;rw [hcell,<-hj]
 ·intro y hy;obtain rfl:=aj.1 hy;exact PL
 ·intro v' w' g1 g2 _;have hb:Below base w w':=(aG base w).grown g2 hbase (λk hk=>(fG h2 hk).1);have g3:=g1;obtain ⟨_,g4⟩:=g3;have ZJ:∃ao c,v' = .slice ao (ls.length+1) c:=by
   rcases g4 with ⟨rfl,h0⟩ | ⟨g,cap,cur,rfl,_⟩
   ·omega
   ·exact ⟨_,_,rfl⟩
  obtain ⟨ao,c,rfl⟩:=ZJ;refine h ao c w' ⟨vs++[u],by simp [h1],by rw [aE];exact g1,?_,?_⟩ hb g2
  ·intro y hy;rcases aA.1 hy with hy | hy
   ·exact h3 y hy
   ·obtain rfl:=aj.1 hy;exact PL
  ·intro i hi;by_cases hlt:i<ls.length
   ·have:=mC (h4 i hlt) h2 dZ g2;unfold OW;simpa [dN,hlt,h1] using this
   ·obtain rfl:i=ls.length:=by simp at hi;omega
    have:=mC Ur h2 dZ g2;rw [aL,aL,gz az,gz az,h1,F6];exact this
end Go.Proofs.YtnhefallmioefaaGreat
