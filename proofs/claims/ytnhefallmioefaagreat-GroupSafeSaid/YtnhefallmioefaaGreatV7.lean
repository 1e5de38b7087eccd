/-
  What the proof of the law leans on: contracts of the program's functions, one behind another. No condition.
-/
import Derived.Test.YtnhefallmioefaaGreatV0
import Derived.Test.YtnhefallmioefaaGreatV6
import Derived.Test.YtnhefallmioefaaGreatV3
set_option linter.unusedVariables false
set_option linter.unusedSimpArgs false
namespace Go.Proofs.YtnhefallmioefaaGreat
open Go.RowKit Go.ChangeMaps Go.WideMaps Go.Maps
set_option maxRecDepth 20000
theorem xB {p:Prop} (h:p:=by
 refine cC 16 λK hK=>?_;refine dm rfl λQ' hQ=>?_;refine eV rfl (.tmp 35) (.tmp 46) 74 rfl 3 Tryz.underlying74 F.info3 (.slice ae s.recs.length ce) (cD s.recs) rfl HE1.out _ 1 1 [(fl:Int)+(m9:Int)] rfl (iG HN1.out) hlen ?_;intro ve5 w5 ho5 hon5 hfr5;refine hQ _ _ ?_;clear hQ Q';have h5:=hon5.keeps HL1.out (i9 HE1.out HL1.out (by simp));refine hK.out _ _ ((af h5 4).trans rfl) (λam=>?_);clear hK K;refine bH ?_;have HL5:=ab h5;have HO5:=ab ho5;have HON5:=ab hon5;have HFR5:=ab hfr5;clear h5 ho5 hon5 hfr5;refine aB 17 ?_;refine aB 18 ?_;refine cC 19 λK hK=>?_;have hy:w5.cell? ⟨l,5,none⟩=some (.slice ae s.recs.length ce):=(af HL5.out 5).trans rfl;have hz:=aM HL5.out 5;obtain ⟨a5,c5,e5,_⟩:=HO5.out.isI;rw [ay,eU] at e5;simp only [aY,gM,cy] at e5;subst e5;go_simp
 clear hy hz;refine hK.out _ _ ((af (aR HL5.out 5 _) 4).trans rfl) (λam=>?_);clear hK K;refine bH ?_;refine fI ?_;go_wp2_with fail
 go_meet
 exact ⟨a5,c5,w5,rfl,HO5.out,(Only.ofBelow HB1.out _).trans HON5.out,λk hk=>(HFR5.out k hk).imp id (λh=>aD HB1.out.size h)⟩):p:=h
theorem xz {p:Prop} (h:p:=by
 refine cC 15 λK hK=>?_;go_simp
 have h1:=bb HLW.out (.cells #[.int .i64 ((fl:Int)+(m9:Int))] 3);have h2:=aK V (.cells #[.int .i64 ((fl:Int)+(m9:Int))] 3);have h3:OwnI (V.alloc (.cells #[.int .i64 ((fl:Int)+(m9:Int))] 3)) 0 3 (.slice ae s.recs.length ce) (cD s.recs):=HEV0.out.alloc _;have hB1:Below V.heap.size V (V.alloc (.cells #[.int .i64 ((fl:Int)+(m9:Int))] 3)):=(az _ _).alloc (ah _) _;refine hK.out _ _ ((af h1 4).trans rfl) (λam=>?_);clear hK K;refine bH ?_;generalize V.alloc (.cells #[.int .i64 ((fl:Int)+(m9:Int))] 3)=v1 at *;have HL1:=ab h1;have HN1:=ab h2;have HE1:=ab h3;have HB1:=ab hB1;clear h1 h2 h3 hB1;exact xB):p:=h
theorem xy {p:Prop} (h:p:=by
 refine cC 8 λK hK=>?_;refine dm rfl λQ' hQ=>?_;refine eD rfl (.tmp 54) (.tmp 57) 29 rfl 31 i0 (.slice none 0 0) 1 24 Tryz.underlying29 HI0.out.1 HI0.out.2.1 HI0.out.2.2.1 HI0.out.2.2.2 rfl (by decide) (.slice ar s.recs.length cr) s.recs.length us rfl HRU7.out (some ⟨X7,0,none⟩) 1 1 rfl (λe=>by cases e) [.slice a6 n c6] rfl (C4 HN7.out) (by simp [Value.oneCell']) (by unfold maxLen;omega) (by omega) ?_;intro v8 w8 ho8 hon8 hfr8;refine hQ _ _ ?_;clear hQ Q';have h5:=hon8.keeps HL7.out (λhm=>by have h6:=cV HRU7.out (by simpa using hm);rw [HL7.out] at h6;simp at h6);have h7:OwnB v7 V.heap.size 5 (.slice a6 n c6) rec:=HO7.out;have h8:=bu h7 hon8 (λb hb hm=>i8 (h7.mono (aH _)) (cV HRU7.out (by simpa using hm)) (by simp) (by rw [hb];simp));refine hK.out _ _ trivial (λam=>?_);clear hK K;refine bH ?_;obtain ⟨a8,c8,e8,_,_⟩:=du ho8;subst e8;have HL8:=ab h5;have HO8:=ab ho8;have HON8:=ab hon8;have HFR8:=ab hfr8;have HV8:=ab h8;clear h5 h7 h8 ho8 hon8 hfr8;refine aB 9 ?_;refine aB 10 ?_;refine cC 11 λK hK=>?_;have hy:w8.cell? ⟨l,4,none⟩=some (.slice ar s.recs.length cr):=(af HL8.out 4).trans rfl;have hz:=aM HL8.out 4;go_simp
 clear hy hz;refine hK.out _ _ trivial (λam=>?_);clear hK K;refine bH ?_;refine fI ?_;go_wp2_with fail
 go_meet
 exact ⟨a8,c8,.slice a6 n c6,w8,rfl,HO8.out,HV8.out,HL8.out,(Only.ofBelow HB7.out _).trans HON8.out,λk hk=>(HFR8.out k hk).imp id (λh=>aD HB7.out.size h)⟩):p:=h
theorem xw {p:Prop} (h:p:=by
 refine hK.out _ _ trivial (λam=>?_);clear hK K;refine bH ?_;refine cC 7 λK hK=>?_;go_simp
 have h1:=bb HL6b.out (.cells #[.slice a6 n c6] 31);have h2:=aK w6 (.cells #[.slice a6 n c6] 31);have h3:=World.ownsRow.alloc HRU6b.out (.cells #[.slice a6 n c6] 31);have h4:=HO6b.out.alloc (.cells #[.slice a6 n c6] 31);have hB7:Below V.heap.size V (w6.alloc (.cells #[.slice a6 n c6] 31)):=HB6.out.alloc HB6.out.size _;refine hK.out _ _ trivial (λam=>?_);clear hK K;refine bH ?_;generalize w6.alloc (.cells #[.slice a6 n c6] 31)=v7 at *;generalize w6.heap.size=X7 at *;have HL7:=ab h1;have HN7:=ab h2;have HRU7:=ab h3;have HO7:=ab h4;have HB7:=ab hB7;clear h1 h2 h3 h4 hB7;exact xy):p:=h
theorem F.info3:(Tryz.prog.info? 3).map (λi=>(i.zero,i.size,i.bytes))=some (some (.int .i64 0),1,8):=by kernel_rfl
theorem IsI.src {w:World} {ao:Option Addr} {m c:Nat} {l:List Int} (h:IsI w ao m c l):Dj w ao m (l.map iv):=by
 obtain ⟨h1,h2,h3⟩:=h;cases ao with
 | none=>exact .inl ⟨rfl,(h2 rfl).1⟩
 | some ad =>
  refine .inr ⟨ad,rfl,λj u hj=>?_⟩;rcases h3 with h3 | ⟨b,off,h4,h5⟩
  ·subst h3;obtain rfl:l=[]:=br.1 h1;simp at hj
  ·obtain rfl:ad=⟨b,off,none⟩:=by simpa using h4
   have hjl:j<l.length:=by
    rcases DN j l.length with hlt | hge
    ·exact hlt
    ·simp [dR hge] at hj
   have:=h5 j (by omega);rw [Addr.add_lit,this];simp [hjl] at hj;simp [<-hj,hjl,iv]
theorem iG {w:World} {b:Nat} {z:Int} {t:TypeId} (h:w.heap[b]? = some (.cells #[.int .i64 z] t (0,0))):IsI w (some ⟨b,0,none⟩) 1 1 [z]:=by
 refine ⟨rfl,(λe=>by cases e),.inr ⟨b,0,rfl,λi hi=>?_⟩⟩;obtain rfl:i=0:=by omega
 rw [af h];rfl
theorem eV {P:Program} {w:World} {ops:Array Oper} {rest:List Oper} {o:Oper} {a:Act} {Q:Exit->Act->World->Prop} (hgd:o.guard=none) (s x:Operand) (t:TypeId)
  (ho:o.op = .call { callee:=.builtin .append,args:=#[s,x],argTypes:=#[t,t]})
  (e:TypeId) (ht:P.underlying t=some (.slice e)) (hi:(P.info? e).map (λi=>(i.zero,i.size,i.bytes))=some (some (.int .i64 0),1,8))
  (v:Value) (l:List Int) (hs:a.eval s=v) (hown:OwnI w 0 e v l)
  (ao:Option Addr) (m c:Nat) (l2:List Int) (hx:a.eval x = .slice ao m c) (hsrc:IsI w ao m c l2) (hbytes:l.length+m<=17592186044416)
  (h:∀v' w',OwnI w' 0 e v' (l++l2)->Only v.ownBlock.toList w w'->(∀k,v'.ownBlock=some k->v.ownBlock=some k\/w.heap.size<=k)->wpList P ops Q rest (a.put o.dst v') w'):wpList P ops Q (o::rest) a w:=by
 obtain ⟨i0,hi0,hz0,hz1,hz2⟩:=info_parts hi;refine eD hgd s x t ho e i0 (.int .i64 0) 1 8 ht hi0 hz0 hz1 hz2 rfl (by decide) v _ _ hs hown ao m c hx (λe=>(hsrc.nil e).2) (l2.map iv) (by rw [aP,hsrc.len,Nat.mul_one]) hsrc.src ?_ (by unfold maxLen;omega) (by omega) ?_
 ·intro u hu;obtain ⟨y,_,rfl⟩:=cF.1 hu;rfl
 ·intro v' w' g1 g2 g3;refine h v' w' ?_ g2 g3;unfold OwnI;rw [ay,hsrc.len,bS];exact g1
theorem i9 {w:World} {b:Nat} {e:TypeId} {v:Value} {l:List Int} {o:Obj} (ho:OwnI w 0 e v l) (h:w.heap[b]? = some o) (hne:∀cur,o ≠ .cells cur e (0,0)):b∉v.ownBlock.toList:=by
 intro hm;have hk:v.ownBlock=some b:=by simpa using hm
 rcases ho.2 with ⟨rfl,_⟩ | ⟨g,cap,cur,rfl,_,hg,_⟩
 ·simp [Value.ownBlock] at hk
 ·simp [Value.ownBlock] at hk;subst hk;rw [hg] at h;exact hne cur (Option.some.inj h).symm
theorem cV {w:World} {e:TypeId} {size n b:Nat} {v:Value} {xs:List Value} (h:w.ownsRow 0 e size v n xs) (hb:v.ownBlock=some b):w.heap[b]? = some (.cells (match w.heap[b]? with | some (.cells cur _ _)=>cur | _=>#[]) e (0,0)):=by
 rcases h.2 with ⟨rfl,_⟩ | ⟨g,cap,cur,rfl,_,hg,_⟩
 ·simp [Value.ownBlock] at hb
 ·simp [Value.ownBlock] at hb;subst hb;rw [hg]
theorem C4 {w:World} {b:Nat} {v:Value} {t:TypeId} (h:w.heap[b]? = some (.cells #[v] t (0,0))):Dj w (some ⟨b,0,none⟩) 1 [v]:=by
 refine .inr ⟨_,rfl,λj u hj=>?_⟩
 match j,hj with
 | 0,hj =>
  rw [Addr.add_lit,af h];simpa using hj
section
variable {w:World} {A D L:List Nat} {l d:Nat} {s:Wl} {k:Dk}
def fc (s:Wl) (k:Dk) (rec:List UInt8):Int×Wl×Dk :=
 if kS s k then (10,jE s 10,k)
 else if 20000<rec.length then (2,s,k)
 else if k.room - (k.total:Int)<((12+rec.length:Nat):Int) then (9,jE s 9,k)
 else (0,{ jE s 0 with recs:=s.recs++[rec]},jI k (F.bV rec))
structure AddP (w w':World) (A D L:List Nat) (l d:Nat) (s':Wl) (k':Dk):Prop where
 ex:∃A' D' L',WD w' A' D' L' l d s' k'/\Moves (D++L) (D'++L') w w'/\Ext A A' w/\∀b∈A,b∈A'
theorem WD.move_D {w':World} {D':List Nat} {k':Dk} (h:WD w A D L l d s k) (hk:IsDk w' D' d k') (m:Moves D D' w w'):WD w' (A++D') D' L l d s k':=by
 have he:Ext A (A++D') w:=λb hb=>by
  rcases ap.1 hb with hb | hb
  ·exact .inl hb
  ·exact (m.gr b hb).imp (h.dA b) id
 refine ⟨h.wl.keep m.only h.dis.symm h.dA he,hk,m.dis h.dis h.wl.lt,λb hb=>by simp [hb],λb hb=>by simp [h.lA b hb],λb hb=>?_⟩;rcases ap.1 hb with hb | hb
 ·exact aE (h.alt b hb) m.only.size
 ·exact hk.lt b hb
theorem Only.trans' {S T:List Nat} {a b c:World} (h:Only S a b) (k:Only T b c) (hT:∀x∈T,x<a.heap.size->x∈S):Only S a c :=
 ⟨k.os.trans h.os,k.tape.trans h.tape,k.output.trans h.output,aD h.size k.size,λi hi hs=>(k.block i (aE hi h.size) (λhm=>hs (hT i hm hi))).trans (h.block i hi hs)⟩
theorem ij (recs:List (List UInt8)) (rec:List UInt8):cD (recs++[rec])=cD recs++[((F.aL (recs++[rec])).length:Int)]:=by
 unfold cD;rw [ay,List.length_singleton,dT,bS];congr 1
 ·refine Dn (λi hi=>?_);have hlt:=cW.1 hi;rw [cG (by omega)]
 ·simp only [dE,List.map_nil];rw [aZ (by simp)]
theorem ig (recs:List (List UInt8)) (rec:List UInt8):(F.aL (recs++[rec])).length=(F.aL recs).length+(12+rec.length):=by
 rw [F.oC,ay];simp [F.aL,F.cX]
theorem BV {w w2 w4 W6 w8:World} {D3:List Nat} {k3:Dk} {us:List Value} {ar a5 a8:Option Addr} {cr c5 c8 ce:Nat} {ae:Option Addr} {v6:Value} {rec:List UInt8} {z:Int}
  (H:WD w A D L l d s k) (hb2:Below w.heap.size w w2) (M24:Moves (D++L) (D3++L) w2 w4) (H4:WD w4 (A++D3) D3 L l d (jE s 0) k3)
  (hu:us.length=s.recs.length) (him:∀i,i<s.recs.length->Imm w4 (A++D3) (us.getD i undef) (s.recs.getD i []))
  (hvr:∀b,(Value.slice ar s.recs.length cr).ownBlock=some b->b∈L) (hve:∀b,(Value.slice ae s.recs.length ce).ownBlock=some b->b∈L)
  (hon4:Only L w4 W6) (ho6:OwnI W6 0 3 (.slice a5 (s.recs.length+1) c5) (cD s.recs++[z])) (hfr5:∀b,(Value.slice a5 (s.recs.length+1) c5).ownBlock=some b->(Value.slice ae s.recs.length ce).ownBlock=some b\/w4.heap.size<=b)
  (hru6:W6.ownsRow 0 31 1 (.slice ar s.recs.length cr) s.recs.length us)
  (ho8:w8.ownsRow 0 31 1 (.slice a8 (s.recs.length+1) c8) (s.recs.length+1) (us++[v6])) (hv8:OwnB w8 W6.heap.size 5 v6 rec)
  (hl8:w8.heap[l]? = some (.cells #[.pointer (some ⟨d,0,none⟩),.int .i64 s.lives,.bool (s.done || !((0:Int)==0)),.int .i64 1,.slice ar s.recs.length cr,.slice a5 (s.recs.length+1) c5] 103 (0,0)))
  (hon8:Only (Value.slice ar s.recs.length cr).ownBlock.toList W6 w8) (hfr8:∀b,(Value.slice a8 (s.recs.length+1) c8).ownBlock=some b->(Value.slice ar s.recs.length cr).ownBlock=some b\/W6.heap.size<=b)
  (hz:z=((F.aL (s.recs++[rec])).length:Int)) :
  AddP w (w8.setCell ⟨l,4,none⟩ (.slice a8 (s.recs.length+1) c8)) A D L l d { jE s 0 with recs:=s.recs++[rec]} k3:=by
 have o9:Only [l] w8 (w8.setCell ⟨l,4,none⟩ (.slice a8 (s.recs.length+1) c8)):=(Only.refl _ _).setCell (by simp) _;have hlL:l∈L:=H4.wl.mem;have o48:Only L w4 w8:=hon4.trans (hon8.mono (λb hb=>hvr b (by simpa using hb)));have o49:Only L w4 (w8.setCell ⟨l,4,none⟩ (.slice a8 (s.recs.length+1) c8)):=o48.trans (o9.mono (by simpa using hlL));have hv5lt:∀b,(Value.slice a5 (s.recs.length+1) c5).ownBlock=some b->b<W6.heap.size:=λb hb=>(World.ownsRow.lt ho6 b hb).2;have hv8lt:∀b,(Value.slice a8 (s.recs.length+1) c8).ownBlock=some b->b<w8.heap.size:=λb hb=>(World.ownsRow.lt ho8 b hb).2;have s46:=hon4.size;have s68:=hon8.size;have s89:=o9.size;have s24:=M24.only.size;have s02:=hb2.size;have hmem:∀b,b∈L++((Value.slice a5 (s.recs.length+1) c5).ownBlock.toList++(Value.slice a8 (s.recs.length+1) c8).ownBlock.toList)->b∈L\/w4.heap.size<=b:=by
  intro b hb;simp only [ap,dM] at hb;rcases hb with hb | hb | hb
  ·exact .inl hb
  ·exact (hfr5 b hb).imp (hve b) id
  ·exact (hfr8 b hb).imp (hvr b) (λh=>aD s46 h)
 have hlt9:∀b,b∈L++((Value.slice a5 (s.recs.length+1) c5).ownBlock.toList++(Value.slice a8 (s.recs.length+1) c8).ownBlock.toList)->b<w8.heap.size:=by
  intro b hb;simp only [ap,dM] at hb;rcases hb with hb | hb | hb
  ·have:=H4.wl.lt b hb;omega
  ·have:=hv5lt b hb;omega
  ·exact hv8lt b hb
 have hext:Ext (A++D3) ((A++D3)++(L++((Value.slice a5 (s.recs.length+1) c5).ownBlock.toList++(Value.slice a8 (s.recs.length+1) c8).ownBlock.toList))) w4:=by
  intro b hb;rcases ap.1 hb with hb | hb
  ·exact .inl hb
  ·exact (hmem b hb).imp (H4.lA b) id
 have ho8':=bu ho8 o9 (λb hb hm=>by
  have h1:=cV ho8 hb;rw [aj.1 hm,hl8] at h1;simp at h1)
 have h6a:OwnI w8 0 3 (.slice a5 (s.recs.length+1) c5) (cD s.recs++[z]):=bu ho6 hon8 (λb hb hm=>by
  have h1:=cV ho6 hb;have h2:=cV hru6 (by simpa using hm);rw [h1] at h2;simp at h2)
 have h6b:=bu h6a o9 (λb hb hm=>by
  have h1:=cV h6a hb;rw [aj.1 hm,hl8] at h1;simp at h1)
 have hnew:Imm (w8.setCell ⟨l,4,none⟩ (.slice a8 (s.recs.length+1) c8)) ((A++D3)++(L++((Value.slice a5 (s.recs.length+1) c5).ownBlock.toList++(Value.slice a8 (s.recs.length+1) c8).ownBlock.toList))) v6 rec:=by
  have hv9:=bu (hv8.mono (aH _)) o9 (λb hb hm=>i8 (hv8.mono (aH _)) hl8 (by simp) (by rw [aj.1 hm] at hb;rw [hb];simp));obtain ⟨ao,c,rfl,h1,h2,h3⟩:=gz hv8;obtain ⟨ao',c',e,h4⟩:=OwnB.isB (base:=0) hv9;cases e;refine ⟨ao,c,rfl,h4,h2,λp hp=>⟨λhm=>?_,aE (h3 p hp).2 s89⟩⟩;have hge:=(h3 p hp).1;simp only [ap,dM] at hm;rcases hm with (hm | hm) | hm | hm | hm
  ·have:=H4.alt p.block (by simp [hm]);omega
  ·have:=H4.alt p.block (by simp [hm]);omega
  ·have:=H4.wl.lt p.block hm;omega
  ·have:=hv5lt p.block hm;omega
  ·have k1:=cV ho8 hm;exact i8 (hv8.mono (aH _)) k1 (by simp) (by subst hp;simp [Value.ownBlock])
 refine ⟨(A++D3)++(L++((Value.slice a5 (s.recs.length+1) c5).ownBlock.toList++(Value.slice a8 (s.recs.length+1) c8).ownBlock.toList)),D3,L++((Value.slice a5 (s.recs.length+1) c5).ownBlock.toList++(Value.slice a8 (s.recs.length+1) c8).ownBlock.toList),⟨⟨⟨.slice a8 (s.recs.length+1) c8,.slice a5 (s.recs.length+1) c5,aR hl8 4 _,⟨⟨us++[v6],by simp [hu],by rw [show ({ jE s 0 with recs:=s.recs++[rec]}:Wl).recs.length=s.recs.length+1 by simp];exact ho8',λi hi=>?_⟩,?_,λb hb=>by simp [hb],λb hb=>by simp [hb]⟩⟩,by simp [hlL],λb hb=>aE (hlt9 b hb) s89⟩,H4.dk.keep o49 H4.dis,?_,λb hb=>by simp [hb],λb hb=>aO _ hb,λb hb=>?_⟩,?_,?_,λb hb=>by simp [hb]⟩
 ·have hi':i<s.recs.length+1:=by simpa using hi
  by_cases hlt:i<s.recs.length
  ·have h1:=(him i hlt).step o49 H4.lA hext;have e1:(us++[v6]).getD i undef=us.getD i undef:=by simp [List.getD,cI (show i<us.length by omega)]
   have e2:(s.recs++[rec]).getD i []=s.recs.getD i []:=by simp [List.getD,cI hlt]
   show Imm _ _ ((us++[v6]).getD i undef) ((s.recs++[rec]).getD i []);rw [e1,e2];exact h1
  ·obtain rfl:i=s.recs.length:=by omega
   have e1:(us++[v6]).getD s.recs.length undef=v6:=by rw [<-hu];simp [List.getD]
   have e2:(s.recs++[rec]).getD s.recs.length []=rec:=by simp [List.getD]
   show Imm _ _ ((us++[v6]).getD s.recs.length undef) ((s.recs++[rec]).getD s.recs.length []);rw [e1,e2];exact hnew
 ·show OwnI _ 0 3 _ (cD (s.recs++[rec]));rw [ij,<-hz];exact h6b
 ·intro b hb hm;rcases hmem b hm with h1 | h1
  ·exact H4.dis b hb h1
  ·have:=H4.dk.lt b hb;omega
 ·rcases ap.1 hb with hb | hb
  ·have:=H4.alt b hb;omega
  ·exact aE (hlt9 b hb) s89
 ·refine ⟨((Only.ofBelow hb2 (D++L)).trans M24.only).trans' o49 ?_,λb hb=>?_,λb hb=>?_⟩
  ·intro b hb hlt;simp [hb]
  ·rcases ap.1 hb with hb | hb
   ·rcases M24.gr b (by simp [hb]) with h1 | h1
    ·exact .inl h1
    ·exact .inr (aD s02 h1)
   ·rcases hmem b hb with h1 | h1
    ·exact .inl (by simp [h1])
    ·right;omega
  ·rcases ap.1 hb with hb | hb
   ·rcases ap.1 (M24.sub b (by simp [hb])) with h1 | h1
    ·simp [h1]
    ·simp [h1]
   ·simp [hb]
 ·intro b hb;rcases ap.1 hb with hb | hb
  ·rcases ap.1 hb with hb | hb
   ·exact .inl hb
   ·rcases M24.gr b (by simp [hb]) with h1 | h1
    ·rcases ap.1 h1 with h1 | h1
     ·exact .inl (H.dA b h1)
     ·exact .inl (H.lA b h1)
    ·exact .inr (aD s02 h1)
  ·rcases hmem b hb with h1 | h1
   ·exact .inl (H.lA b h1)
   ·right;omega
set_option maxHeartbeats 4000000 in
theorem BW (h:WD w A D L l d s k) (ao:Option Addr) (n c:Nat) (rec:List UInt8) (hi0:Imm w A (.slice ao n c) rec) (hbig:s.recs.length<=1000000) (hroom:k.room<=1048576) (h0:(k.total:Int)<=k.room) (hfl:(F.aL s.recs).length<=1048576) (hn:n<=100000) :
  Calls Tryz.prog 107 #[.pointer (some ⟨l,0,none⟩),.slice ao n c] w λe w'=>e = .returned (.int .i64 (fc s k rec).1)/\AddP w w' A D L l d (fc s k rec).2.1 (fc s k rec).2.2:=by
 obtain ⟨hi,hav⟩:IsB w ao n c rec/\∀p,ao=some p->p.block∉A/\p.block<w.heap.size:=by
  obtain ⟨ao',c',e,h1,_,h3⟩:=hi0;cases e;exact ⟨h1,h3⟩
 clear hi0;have HAV:=ab hav;clear hav;have H:=ab h;have HI:=ab hi;have hlr:rec.length=n:=hi.len;have HOF:=ab (pZ h.wl h.dk);have hc0:w.cell? ⟨l,0,none⟩=some (.pointer (some ⟨d,0,none⟩)):=by
  obtain ⟨⟨vr,ve,h1,_⟩,_⟩:=h.wl;rw [af h1];rfl
 clear h hi;cases hoff:kS s k with
 | true =>
  rw [hoff] at HOF;have HA:Hid (fc s k rec=(10,jE s 10,k)):=ab (by unfold fc;rw [aA hoff]);clear hoff;go_enter Tryz.func107,Tryz.ntmps107
  go_wp2_with fail
  refine HOF.out.mono ?_;rintro e w1 ⟨rfl,q,rfl⟩;have H1:=ab (H.out.drewN q);have HO1:Hid (Only (D++L) w (w.drewN q)):=ab ((Only.refl _ _).drewN q);generalize w.drewN q=W at *;go_wp2_with fail
  refine (iO H1.out.wl H1.out.lA 10).mono ?_;rintro e w2 ⟨rfl,hw2,ho2⟩;have H2:=ab (H1.out.only_L hw2 ho2);have HO2:=ab (HO1.out.trans (ho2.mono (λb hb=>by simp [hb])));clear hw2 ho2;go_wp2_with fail
  go_ret
  rw [HA.out];exact ⟨rfl,A,D,L,H2.out,Moves.of_only HO2.out,Ext.refl _ _,λb hb=>hb⟩
 | false =>
  rw [hoff] at HOF;have HKO:=ab (rg hoff);have HNO:Hid (¬kS s k=true):=ab (by rw [hoff];decide);clear hoff;by_cases hlong:20000<n
  ·have HA:Hid (fc s k rec=(2,s,k)):=ab (by unfold fc;rw [aw HNO.out,aA (by omega)]);clear hlr;go_enter Tryz.func107,Tryz.ntmps107
   go_wp2_with fail
   refine HOF.out.mono ?_;rintro e w1 ⟨rfl,q,rfl⟩;have H1:=ab (H.out.drewN q);have HO1:Hid (Only (D++L) w (w.drewN q)):=ab ((Only.refl _ _).drewN q);generalize w.drewN q=W at *;go_wp2_with fail
   refine (F.yC none 0 0 ao n c W hlong (by omega)).mono ?_;rintro e w2 ⟨rfl,rfl⟩;go_wp2_with fail
   go_ret
   rw [HA.out];exact ⟨rfl,A,D,L,H1.out,Moves.of_only HO1.out,Ext.refl _ _,λb hb=>hb⟩
  ·have HFR:Hid ((F.bV rec).length=12+n):=ab (by rw [F.cX,hlr]);by_cases hfull:k.room - (k.total:Int)<((12+n:Nat):Int)
   ·have HA:Hid (fc s k rec=(9,jE s 9,k)):=ab (by unfold fc;rw [aw HNO.out,aw (by omega),aA (by rw [hlr];exact hfull)]);have HFU:=ab hfull;have HNL:=ab hlong;clear hfull hlong hlr;go_enter Tryz.func107,Tryz.ntmps107
    go_wp2_with fail
    refine HOF.out.mono ?_;rintro e w1 ⟨rfl,q,rfl⟩;have H1:=ab (H.out.drewN q);have HO1:Hid (Only (D++L) w (w.drewN q)):=ab ((Only.refl _ _).drewN q);have HI1:Hid (IsB (w.drewN q) ao n c rec):=ab (HI.out.below ⟨rfl,rfl,rfl,ah _,λ_ _=>rfl⟩);have hc1:(w.drewN q).cell? ⟨l,0,none⟩=some (.pointer (some ⟨d,0,none⟩)):=hc0;clear hc0;generalize w.drewN q=W at *;go_wp2_with fail
    refine (F.tr none 0 0 [] ao n c rec W (fV W) HI1.out (by omega) (by have:=HNL.out;omega)).mono ?_;rintro e w2 ⟨v2,rfl,ho2,hb2⟩;rw [cL] at ho2;obtain ⟨a2,c2,e2,_⟩:=ho2.isB;rw [HFR.out] at e2;subst e2;have H2:=ab (H1.out.below hb2);have HO2:=ab (HO1.out.trans (Only.ofBelow hb2 (D++L)));have hc2:=cell_later hb2 hc1;clear ho2 hb2 hc1;go_wp2_with fail
    refine (sA H2.out.dk HKO.out eX jA a2 (12+n) c2 HFU.out (by omega) hroom h0).mono ?_;rintro e w3 ⟨rfl,hb3⟩;have H3:=ab (H2.out.below hb3);have HO3:=ab (HO2.out.trans (Only.ofBelow hb3 (D++L)));clear hb3 hc2;go_wp2_with fail
    refine (iO H3.out.wl H3.out.lA 9).mono ?_;rintro e w4 ⟨rfl,hw4,ho4⟩;have H4:=ab (H3.out.only_L hw4 ho4);have HO4:=ab (HO3.out.trans (ho4.mono (λb hb=>by simp [hb])));clear hw4 ho4;go_wp2_with fail
    go_ret
    rw [HA.out];exact ⟨rfl,A,D,L,H4.out,Moves.of_only HO4.out,Ext.refl _ _,λb hb=>hb⟩
   ·have HA:Hid (fc s k rec=(0,{ jE s 0 with recs:=s.recs++[rec]},jI k (F.bV rec))):=ab (by unfold fc;rw [aw HNO.out,aw (by omega),aw (by rw [hlr];exact hfull)]);have HFU:=ab hfull;have HNL:=ab hlong;clear hfull hlong hlr;go_enter Tryz.func107,Tryz.ntmps107
    go_wp2_with fail
    refine HOF.out.mono ?_;rintro e w1 ⟨rfl,q,rfl⟩;have H1:=ab (H.out.drewN q);have HO1:Hid (Below w.heap.size w (w.drewN q)):=ab ⟨rfl,rfl,rfl,ah _,λ_ _=>rfl⟩;have HI1:Hid (IsB (w.drewN q) ao n c rec):=ab (HI.out.below HO1.out);have hc1:(w.drewN q).cell? ⟨l,0,none⟩=some (.pointer (some ⟨d,0,none⟩)):=hc0;clear hc0;generalize w.drewN q=W at *;go_wp2_with fail
    refine (F.tr none 0 0 [] ao n c rec W (fV W) HI1.out (by omega) (by have:=HNL.out;omega)).mono ?_;rintro e w2 ⟨v2,rfl,ho2,hb2⟩;rw [cL] at ho2;obtain ⟨a2,c2,e2,hi2⟩:=ho2.isB;rw [HFR.out] at e2 hi2;subst e2;have H2:=ab (H1.out.below hb2);have HO2:=ab (HO1.out.trans (hb2.mono HO1.out.size));have HI2:=ab hi2;have HR2:=ab (HI1.out.below hb2);have hc2:=cell_later hb2 hc1;clear ho2 hb2 hc1 hi2;go_wp2_with fail
    refine (xh H2.out.dk HKO.out a2 (12+n) c2 (F.bV rec) HI2.out (by have:=HFU.out;omega) hroom).mono ?_;rintro e w3 ⟨D3,rfl,hd3,m3⟩;have H3:=ab (H2.out.move_D hd3 m3);have HM3:=ab m3;have HR3:Hid (IsB w3 ao n c rec):=ab (iH HR2.out m3.only (λb off i hb hm=>(HAV.out _ hb.1).1 (H.out.dA b hm)));clear hd3 m3 hc2;go_wp2_with fail
    refine (iO H3.out.wl H3.out.lA 0).mono ?_;rintro e w4 ⟨rfl,hw4,ho4⟩;have H4:=ab (H3.out.only_L hw4 ho4);have HO4:=ab ho4;clear hw4 ho4;go_upto_region 9 with (fail)
    have HR4:Hid (IsB w4 ao n c rec):=ab (iH HR3.out HO4.out (λb off i hb hm=>(HAV.out _ hb.1).1 (H.out.lA b hm)));obtain ⟨⟨vr,ve,k1,k2⟩,k3,k4⟩:=H4.out.wl;obtain ⟨⟨us,hu,hru,him⟩,hre,hvr,hve⟩:=k2;obtain ⟨ar,cr,e1,_,_⟩:=du hru;subst e1;obtain ⟨ae,ce,e2,_⟩:=hre.isI;rw [eU] at e2;subst e2;have HEV0:Hid (OwnI w4.drew 0 3 (.slice ae s.recs.length ce) (cD s.recs)):=ab hre;have h9:=xZ (H4.out.wl.below (bq w4)) s.recs.length (ah _) (show (jE s 0).recs.length<=1000000000 from aD hbig (by decide));have e9:(jE s 0).recs.take s.recs.length=s.recs:=cK;rw [e9] at h9;have hlen:(cD s.recs).length+1<=17592186044416:=by rw [eU];omega
    have HRU:=ab (And.intro hu (And.intro hru (And.intro him (And.intro hvr hve))));have HK3:=ab k3;have hk1:w4.drew.heap[l]? = some (.cells #[.pointer (some ⟨d,0,none⟩),.int .i64 s.lives,.bool (s.done || !((0:Int)==0)),.int .i64 1,.slice ar s.recs.length cr,.slice ae s.recs.length ce] 103 (0,0)):=k1;have HLW:=ab hk1;clear k1 k3 k4 hu hru him hre hvr hve e9 hk1;generalize hm9:12+n=m9 at *;generalize hfl9:(F.aL s.recs).length=fl at *;have HM9:=ab hm9;have HFL9:=ab hfl9;have hm9b:m9<=200000:=by omega
    clear hm9 hfl9;have HEND:=ab h9;clear h9;have q1:IntKind.i64.wrap ((fl:Int)+(m9:Int))=(fl:Int)+(m9:Int):=IntWalk.i64_in _ (by omega);go_cut [] (λwx=>∃a5 c5 w5,wx=w5.setCell ⟨l,5,none⟩ (.slice a5 (s.recs.length+1) c5)/\OwnI w5 0 3 (.slice a5 (s.recs.length+1) c5) (cD s.recs++[(fl:Int)+(m9:Int)])/\Only (Value.slice ae s.recs.length ce).ownBlock.toList w4.drew w5/\∀k,(Value.slice a5 (s.recs.length+1) c5).ownBlock=some k->(Value.slice ae s.recs.length ce).ownBlock=some k\/w4.drew.heap.size<=k)
    case first =>
     refine wp_region_held_drew (S:=λw'=>w'.cell? ⟨l,4,none⟩=some (.slice ar s.recs.length cr)) (by kernel_rfl) ((af HLW.out 4).trans rfl) (λam=>?_);refine aB 0 ?_;refine aB 1 ?_;refine aB 2 ?_;refine aB 3 ?_;refine aB 5 ?_;refine aB 6 ?_;refine aB 7 ?_;refine aB 8 ?_;refine aB 9 ?_;refine aB 10 ?_;refine aB 12 ?_;refine aB 13 ?_;generalize w4.drew=V at *;refine j5 4 11 (λK hK=>?_) λK hK=>?_
     ·have hy:V.cell? ⟨l,5,none⟩=some (.slice ae s.recs.length ce):=(af HLW.out 5).trans rfl;go_simp
      clear hy;refine hK.out _ _ am (λam=>?_);clear hK K;refine bH ?_;refine cC 11 λK hK=>?_;go_simp
      refine HEND.out.mono ?_;rintro e wq ⟨rfl,rfl⟩;go_wp2_with fail
      refine hK.out _ _ am (λam=>?_);clear hK K;refine bH ?_;refine aB 14 ?_;exact xz
     ·go_simp
      refine HEND.out.mono ?_;rintro e wq ⟨rfl,rfl⟩;go_wp2_with fail
      refine hK.out _ _ am (λam=>?_);clear hK K;refine bH ?_;refine aB 14 ?_;refine j5 4 15 (λK hK=>?_) λK hK=>?_
      ·have hy:V.cell? ⟨l,5,none⟩=some (.slice ae s.recs.length ce):=(af HLW.out 5).trans rfl;go_simp
       clear hy;refine hK.out _ _ am (λam=>?_);clear hK K;refine bH ?_;exact xz
      ·go_simp
       have h1:=bb HLW.out (.cells #[.int .i64 ((fl:Int)+(m9:Int))] 3);have h2:=aK V (.cells #[.int .i64 ((fl:Int)+(m9:Int))] 3);have h3:OwnI (V.alloc (.cells #[.int .i64 ((fl:Int)+(m9:Int))] 3)) 0 3 (.slice ae s.recs.length ce) (cD s.recs):=HEV0.out.alloc _;have hB1:Below V.heap.size V (V.alloc (.cells #[.int .i64 ((fl:Int)+(m9:Int))] 3)):=(az _ _).alloc (ah _) _;refine hK.out _ _ ((af h1 4).trans rfl) (λam=>?_);clear hK K;refine bH ?_;generalize V.alloc (.cells #[.int .i64 ((fl:Int)+(m9:Int))] 3)=v1 at *;have HL1:=ab h1;have HN1:=ab h2;have HE1:=ab h3;have HB1:=ab hB1;clear h1 h2 h3 hB1;refine cC 4 λK hK=>?_;have hy:v1.cell? ⟨l,5,none⟩=some (.slice ae s.recs.length ce):=(af HL1.out 5).trans rfl;go_simp
       clear hy;refine hK.out _ _ am (λam=>?_);clear hK K;refine bH ?_;exact xB
    case rest =>
     obtain ⟨a5,c5,w5,rfl,ho5,hon5,hfr5⟩:=hcut;have o5:Only [l] w5 (w5.setCell ⟨l,5,none⟩ (.slice a5 (s.recs.length+1) c5)):=(Only.refl _ _).setCell (by simp) _;have hl5:=hon5.keeps HLW.out (i9 HEV0.out HLW.out (by simp));have hl6:=aR hl5 5 (.slice a5 (s.recs.length+1) c5);have ho6:OwnI (w5.setCell ⟨l,5,none⟩ (.slice a5 (s.recs.length+1) c5)) 0 3 (.slice a5 (s.recs.length+1) c5) (cD s.recs++[(fl:Int)+(m9:Int)]):=bu ho5 o5 (λb hb hm=>i9 ho5 hl5 (by simp) (by rw [aj.1 hm] at hb;rw [hb];simp));have hsz5:w4.heap.size<=(w5.setCell ⟨l,5,none⟩ (.slice a5 (s.recs.length+1) c5)).heap.size:=aD hon5.size o5.size;have HL6:=ab hl6;have HO6:=ab ho6;have HFR5:=ab hfr5;have HVE:∀k,(Value.slice ae s.recs.length ce).ownBlock=some k->k∈L:=HRU.out.2.2.2.2;have hon4:Only L w4 (w5.setCell ⟨l,5,none⟩ (.slice a5 (s.recs.length+1) c5)):=((Only.ofBelow (bq w4) L).trans (hon5.mono (λb hb=>HVE b (by simpa using hb)))).trans (o5.mono (by simpa using HK3.out));have HON4:=ab hon4;have HR6:Hid (IsB (w5.setCell ⟨l,5,none⟩ (.slice a5 (s.recs.length+1) c5)) ao n c rec):=ab (iH HR4.out hon4 (λb off i hb hm=>(HAV.out _ hb.1).1 (H.out.lA b hm)));have hru6:(w5.setCell ⟨l,5,none⟩ (.slice a5 (s.recs.length+1) c5)).ownsRow 0 31 1 (.slice ar s.recs.length cr) s.recs.length us:=by
       have r1:w4.drew.ownsRow 0 31 1 (.slice ar s.recs.length cr) s.recs.length us:=HRU.out.2.1;have r2:=bu r1 hon5 (λb hb hm=>i9 HEV0.out (cV r1 hb) (by simp) hm);exact bu r2 o5 (λb hb hm=>by
         have r3:=cV r2 hb;rw [aj.1 hm,hl5] at r3;simp at r3)
     have HRU6:=ab hru6;have HSZ5:=ab hsz5;clear o5 hl5 hl6 ho6 hsz5 hon4 hru6 ho5 hon5 hfr5 HVE;generalize (w5.setCell ⟨l,5,none⟩ (.slice a5 (s.recs.length+1) c5))=W6 at *;go_upto_region 10 with (fail)
     have HLV:Hid (W6.drew.heap[l]? = some (.cells #[.pointer (some ⟨d,0,none⟩),.int .i64 s.lives,.bool (s.done || !((0:Int)==0)),.int .i64 1,.slice ar s.recs.length cr,.slice a5 (s.recs.length+1) c5] 103 (0,0))):=ab HL6.out;have HRV:Hid (IsB W6.drew ao n c rec):=ab (HR6.out.below (bq W6));have HRUV:Hid (W6.drew.ownsRow 0 31 1 (.slice ar s.recs.length cr) s.recs.length us):=ab HRU6.out;have HLR:Hid (rec.length=n):=ab HR6.out.len;obtain ⟨i0,hi0⟩:=info_parts F.zD;have HI0:=ab hi0;clear hi0;go_cut [] (λwx=>∃a8 c8 v6 w8,wx=w8.setCell ⟨l,4,none⟩ (.slice a8 (s.recs.length+1) c8)/\w8.ownsRow 0 31 1 (.slice a8 (s.recs.length+1) c8) (s.recs.length+1) (us++[v6])/\OwnB w8 W6.drew.heap.size 5 v6 rec/\w8.heap[l]? = some (.cells #[.pointer (some ⟨d,0,none⟩),.int .i64 s.lives,.bool (s.done || !((0:Int)==0)),.int .i64 1,.slice ar s.recs.length cr,.slice a5 (s.recs.length+1) c5] 103 (0,0))/\Only (Value.slice ar s.recs.length cr).ownBlock.toList W6.drew w8/\∀k,(Value.slice a8 (s.recs.length+1) c8).ownBlock=some k->(Value.slice ar s.recs.length cr).ownBlock=some k\/W6.drew.heap.size<=k)
     case first =>
       refine wp_region_held_drew (S:=λ_=>True) (by kernel_rfl) trivial (λam=>?_);refine aB 0 ?_;refine aB 1 ?_;refine aB 2 ?_;refine aB 3 ?_;refine aB 5 ?_;generalize W6.drew=V at *;refine j5 4 6 (λK hK=>?_) λK hK=>?_
       ·have hy:V.cell? ⟨l,4,none⟩=some (.slice ar s.recs.length cr):=(af HLV.out 4).trans rfl;go_simp
        clear hy;refine hK.out _ _ trivial (λam=>?_);clear hK K;refine bH ?_;refine cC 6 λK hK=>?_;go_simp
        refine (F.dd ao n c rec _ HRV.out (by omega)).mono ?_;rintro e w6 ⟨v6,rfl,ho6,hb6⟩;obtain ⟨a6,c6,e6,_⟩:=ho6.isB;rw [HLR.out] at e6;subst e6;have HB6:=ab hb6;have HO6b:=ab ho6;have HL6b:=ab (bd hb6 (aQ HLV.out) HLV.out);have HRU6b:=ab (bu HRUV.out (Only.ofBelow hb6 []) (λb _=>by simp));clear ho6 hb6;go_wp2_with fail
        exact xw
       ·go_simp
        refine (F.dd ao n c rec _ HRV.out (by omega)).mono ?_;rintro e w6 ⟨v6,rfl,ho6,hb6⟩;obtain ⟨a6,c6,e6,_⟩:=ho6.isB;rw [HLR.out] at e6;subst e6;have HB6:=ab hb6;have HO6b:=ab ho6;have HL6b:=ab (bd hb6 (aQ HLV.out) HLV.out);have HRU6b:=ab (bu HRUV.out (Only.ofBelow hb6 []) (λb _=>by simp));clear ho6 hb6;go_wp2_with fail
        refine hK.out _ _ trivial (λam=>?_);clear hK K;refine bH ?_;refine j5 4 7 (λK hK=>?_) λK hK=>?_
        ·have hy:w6.cell? ⟨l,4,none⟩=some (.slice ar s.recs.length cr):=(af HL6b.out 4).trans rfl;go_simp
         clear hy;exact xw
        ·go_simp
         have h1:=bb HL6b.out (.cells #[.slice a6 n c6] 31);have h2:=aK w6 (.cells #[.slice a6 n c6] 31);have h3:=World.ownsRow.alloc HRU6b.out (.cells #[.slice a6 n c6] 31);have h4:=HO6b.out.alloc (.cells #[.slice a6 n c6] 31);have hB7:Below V.heap.size V (w6.alloc (.cells #[.slice a6 n c6] 31)):=HB6.out.alloc HB6.out.size _;refine hK.out _ _ trivial (λam=>?_);clear hK K;refine bH ?_;generalize w6.alloc (.cells #[.slice a6 n c6] 31)=v7 at *;generalize w6.heap.size=X7 at *;have HL7:=ab h1;have HN7:=ab h2;have HRU7:=ab h3;have HO7:=ab h4;have HB7:=ab hB7;clear h1 h2 h3 h4 hB7;refine cC 4 λK hK=>?_;have hy:v7.cell? ⟨l,4,none⟩=some (.slice ar s.recs.length cr):=(af HL7.out 4).trans rfl;go_simp
         clear hy;refine hK.out _ _ trivial (λam=>?_);clear hK K;refine bH ?_;exact xy
     case rest =>
       obtain ⟨a8,c8,v6,w8,rfl,ho8,hv8,hl8,hon8,hfr8⟩:=hcut;have hz:((fl:Int)+(m9:Int))=((F.aL (s.recs++[rec])).length:Int):=by
         rw [ig,HFL9.out,HLR.out,HM9.out];omega
       have M24:Moves (D++L) (D3++L) w2 w4:=by
         have m1:Moves (D++L) (D3++L) w2 w3:=⟨HM3.out.only.mono (λb hb=>by simp [hb]),λb hb=>by
          rcases ap.1 hb with hb | hb
          ·exact (HM3.out.gr b hb).imp (λh=>by simp [h]) id
          ·exact .inl (by simp [hb]),λb hb=>by
          rcases ap.1 hb with hb | hb
          ·simp [HM3.out.sub b hb]
          ·simp [hb]⟩
         exact m1.trans (Moves.of_only (HO4.out.mono (λb hb=>by simp [hb])))
       have hfin:=BV (w8:=w8) (W6:=W6) H.out HO2.out M24 H4.out HRU.out.1 HRU.out.2.2.1 HRU.out.2.2.2.1 HRU.out.2.2.2.2 HON4.out HO6.out HFR5.out HRU6.out ho8 hv8 hl8 (show Only _ W6 w8 from ⟨hon8.os,hon8.tape,hon8.output,hon8.size,hon8.block⟩) hfr8 hz;have HFIN:=ab hfin;clear hfin M24 hz ho8 hv8 hl8 hon8 hfr8;go_wp2_with fail
       go_ret
       rw [HA.out];exact ⟨rfl,HFIN.out⟩
end
structure Ent where
 term:Int
 bs:List UInt8
structure Msg where
 frm:Int
 dst:Int
 kind:Int
 N:List Int
 B:List (List UInt8)
structure Rp where
 own:Nat
 n:Nat
 wl:Wl
 lives:Int
 done:Bool
 term:Int
 choice:Int
 log:List Ent
 agreed:Nat
 many:Nat
 leads:Bool
 votes:List Bool
 next:List Nat
 mat:List Nat
 ticks:Nat
 clock:Nat
 heard:List (Int×Int×Int)
def dQ (s:Rp) (k:Dk):Bool:=s.done||(k.off || !(k.lives==s.lives))
def aV (s:Rp) (k:Dk):Rp:={ s with done:=dQ s k }
def bB (s:Rp) (k:Dk) (b:List UInt8):Rp×Dk :=
 if s.done then (s,k) else ({ s with wl:=(fc s.wl k b).2.1,done := !((fc s.wl k b).1==0)},(fc s.wl k b).2.2)
def bT (s:Rp) (k:Dk):Rp×Dk :=
 if s.done then (s,k) else ({ s with wl:=(fQ s.wl k).2.1,done := !((fQ s.wl k).1==0)},(fQ s.wl k).2.2)
def dw (term who:Int):List UInt8:=jg [1,term,who]
def db (place:Nat) (x:Ent):List UInt8:=jg [2,(place:Int),x.term]++(fy (x.bs.length:Int)++x.bs)
def be (s:Rp) (k:Dk) (term who:Int):Bool×Rp×Dk :=
 let p:=bB s k (dw term who)
 if p.1.done then (false,p.1,p.2) else
 let q:=bT p.1 p.2
 if q.1.done then (false,q.1,q.2) else
 (true,{ q.1 with leads:=q.1.leads && !decide (q.1.term<term),term:=term,choice:=who },q.2)
def b8 (s:Rp) (k:Dk) (place:Nat) (x:Ent):Bool×Rp×Dk :=
 let p:=bB s k (db place x)
 if p.1.done then (false,p.1,p.2) else (true,{ p.1 with log:=p.1.log.take place++[x]},p.2)
def fg (s:Rp) (k:Dk) (x:Ent):Bool×Rp×Dk :=
 let p:=b8 s k s.log.length x
 if p.1 then (let q:=bT p.2.1 p.2.2;(!q.1.done,q.1,q.2)) else p
def bJ (l:List Ent) (n:Nat):Int:=if n=0 then 0 else ((l.map Ent.term).getD (n - 1) 0)
def jj (s:Rp) (n:Nat):Bool:=decide (s.n<2*n)
def recs (l:List Ent):List (List UInt8):=(l.filter λx => !x.bs.isEmpty).map Ent.bs
def bM (s:Rp) (n:Nat):Rp:=if s.agreed<n then { s with agreed:=n,many:=s.many+(recs ((s.log.take n).drop s.agreed)).length } else s
def ia (s:Rp):Nat:=((s.log.drop s.agreed).filter λx=>x.term==s.term && !x.bs.isEmpty).length
def da (s:Rp) (dst kind:Int) (N:List Int):Msg:=⟨(s.own:Int),dst,kind,N,[]⟩
def cR (s:Rp) (f:Nat->Msg):List Msg:=((List.range s.n).filter λi=>i != s.own).map f
def bQ (s:Rp) (dst:Nat):Msg :=
 let from_:=s.next.getD dst 0
 let batch:=(s.log.drop from_).take 20
 ⟨(s.own:Int),(dst:Int),3,[s.term,(from_:Int),bJ s.log from_,(s.agreed:Int)]++batch.map Ent.term,batch.map Ent.bs⟩
def bp (s:Rp) (kind:Int) (dst:Nat):Msg:=da s dst kind [s.term,(s.log.length:Int),bJ s.log s.log.length]
def eI (l:List Nat) (k:Nat):Nat:=(l.filter λm=>decide (k<=m)).length
def settleF (s:Rp):Nat->Option Nat
 | 0=>none
 | k+1=>if s.agreed<k+1/\bJ s.log (k+1)=s.term then (if jj s (eI s.mat (k+1)) then some (k+1) else settleF s k) else none
def bI (s:Rp):Bool×Rp :=
 let s1:={ s with mat:=s.mat.set s.own s.log.length }
 match settleF s1 s.log.length with
 | some k=>(true,bM s1 k)
 | none=>(false,s1)
def ft (s:Rp):Bool:=jj s (s.votes.filter id).length
def fT (s:Rp) (k:Dk):List Msg×Rp×Dk :=
 let s1:={ s with leads:=true,next:=List.replicate s.n s.log.length,mat:=List.replicate s.n 0 }
 let p:=fg s1 k ⟨s1.term,[]⟩
 if p.1 then (let s2:=(bI p.2.1).2;(cR s2 (bQ s2),s2,p.2.2)) else ([],p.2)
def fR (s:Rp) (k:Dk):List Msg×Rp×Dk :=
 if 1099511627776<=s.term then ([],s,k) else
 let p:=be s k (s.term+1) (s.own:Int)
 if p.1 then
  let s1:={ p.2.1 with ticks:=0,votes:=(List.replicate s.n false).set s.own true }
  if ft s1 then fT s1 p.2.2 else (cR s1 (bp s1 1),s1,p.2.2)
 else ([],p.2)
def better (s:Rp) (i:Nat) (x:Int×Int×Int):Bool :=
 !(x.1==0||decide (4<(s.clock:Int) - x.1)) &&
 (decide (bJ s.log s.log.length<x.2.2)||(x.2.2==bJ s.log s.log.length&&(decide ((s.log.length:Int)<x.2.1)||(x.2.1==(s.log.length:Int)&&decide (i<s.own)))))
def jF (s:Rp):Bool:=(List.range s.heard.length).all λi => !better s i (s.heard.getD i (0,0,0))
def dX (s0:Rp) (k:Dk):List Msg×Rp×Dk :=
 let s:=aV s0 k
 if s.done then ([],s,k) else
 let s1:={ s with clock:=s.clock+1 }
 if s1.leads then (cR s1 (bQ s1),s1,k) else
 let s2:={ s1 with ticks:=s1.ticks+1 }
 if 8<=s2.ticks/\jF s2=true then fR s2 k
 else if 4<=s2.ticks then (cR s2 (bp s2 5),s2,k)
 else ([],s2,k)
def bw (s0:Rp) (k:Dk) (rec:List UInt8):List Msg×Int×Rp×Dk :=
 if rec.length=0 then ([],1,s0,k) else if 8000<rec.length then ([],2,s0,k) else
 let s:=aV s0 k
 if s.done then ([],10,s,k) else if !s.leads then ([],15,s,k) else
 if 200<=ia s\/2000<=s.many then ([],9,s,k) else
 let p:=fg s k ⟨s.term,rec⟩
 if p.1 then (let s2:=(bI p.2.1).2;(cR s2 (bQ s2),0,s2,p.2.2)) else ([],10,p.2)
def dW (s:Rp) (k:Dk) (m:Msg):List Msg×Rp×Dk :=
 if m.N.length=3 then
  let own:=bJ s.log s.log.length
  let behind:=decide (own<m.N.getD 2 0)||(m.N.getD 2 0==own&&decide ((s.log.length:Int)<=m.N.getD 1 0))
  let yes:=(m.N.getD 0 0==s.term)&&behind&&(s.choice == -1||s.choice==m.frm)
  if yes then
   if s.choice == -1 then
    let p:=be s k s.term m.frm
    if p.1 then (let s1:={ p.2.1 with ticks:=0 };([da s1 m.frm 2 [s1.term,1]],s1,p.2.2)) else ([],p.2)
   else (let s1:={ s with ticks:=0 };([da s1 m.frm 2 [s1.term,1]],s1,k))
  else ([da s m.frm 2 [s.term,0]],s,k)
 else ([],s,k)
def eF (s:Rp) (k:Dk) (m:Msg):List Msg×Rp×Dk :=
 if s.leads || !(m.N.getD 0 0==s.term) || !(s.choice==(s.own:Int)) || !(m.N.getD 1 0==1) then ([],s,k) else
 let s1:={ s with votes:=s.votes.set m.frm.toNat true }
 if ft s1 then fT s1 k else ([],s1,k)
def ey (s:Rp) (from_ term:Int):Bool:=decide (from_<=(s.log.length:Int))&&(bJ s.log from_.toNat==term)
def bE (from_:Nat):List (Int×List UInt8)->Nat->Rp->Dk->Bool×Rp×Dk
 | [],_,s,k=>(true,s,k)
 | (t,rec)::l,i,s,k =>
  if from_+i<s.log.length/\(s.log.map Ent.term).getD (from_+i) 0=t then bE from_ l (i+1) s k
  else if 8000<rec.length\/t<1\/s.term<t\/from_+i<s.agreed then (false,s,k)
  else
   let p:=b8 s k (from_+i) ⟨t,rec⟩
   if p.1 then bE from_ l (i+1) p.2.1 p.2.2 else (false,p.2)
def dH (s:Rp) (k:Dk) (m:Msg):List Msg×Rp×Dk :=
 if !(m.N.length==4+m.B.length)||decide (m.N.getD 1 0<0)||(m.N.getD 0 0==s.term&&s.leads) then ([],s,k) else
 if m.N.getD 0 0<s.term then ([da s m.frm 4 [s.term,0,0]],s,k) else
 let s1:={ s with ticks:=0 }
 if ey s1 (m.N.getD 1 0) (m.N.getD 2 0) then
  let from_:=(m.N.getD 1 0).toNat
  let p:=bE from_ ((m.N.drop 4).zip m.B) 0 s1 k
  if p.1 then
   let q:=if m.B.length=0 then p.2 else bT p.2.1 p.2.2
   if 0<m.B.length/\q.1.done=true then ([],q) else
   let s2:=bM q.1 (min (m.N.getD 3 0) ((from_+m.B.length:Nat):Int)).toNat
   ([da s2 m.frm 4 [s2.term,1,((from_+m.B.length:Nat):Int)]],s2,q.2)
  else ([],p.2)
 else ([da s1 m.frm 4 [s1.term,0,min (s1.log.length:Int) (max (m.N.getD 1 0 - 1) 0)]],s1,k)
def bR (s:Rp) (m:Msg):List Msg×Rp :=
 if !s.leads || !(m.N.getD 0 0==s.term) || !(m.N.length==3)||decide (m.N.getD 2 0<0)||decide ((s.log.length:Int)<m.N.getD 2 0) then ([],s) else
 let who:=m.frm.toNat
 let k:=(m.N.getD 2 0).toNat
 if m.N.getD 1 0=0 then
  if s.next.getD who 0<=k then ([],s) else
  let s1:={ s with next:=s.next.set who (max k (s.mat.getD who 0))}
  ([bQ s1 who],s1)
 else if k<=s.mat.getD who 0 then ([],s) else
 let s1:={ s with mat:=s.mat.set who k,next:=s.next.set who (max k (s.next.getD who 0))}
 let p:=bI s1
 if p.1 then (cR p.2 (bQ p.2),p.2)
 else if p.2.next.getD who 0<p.2.log.length then ([bQ p.2 who],p.2)
 else ([],p.2)
def l3 (s:Rp) (m:Msg):Bool := !(m.dst==(s.own:Int))||m.frm==(s.own:Int)||decide (m.frm<0)||decide ((s.n:Int)<=m.frm)||decide (m.N.length<2)||decide (m.N.getD 0 0<1)||decide (1099511627776<m.N.getD 0 0)
def fw (s0:Rp) (k0:Dk) (m:Msg):List Msg×Rp×Dk :=
 let s1:=aV s0 k0
 if s1.done||l3 s1 m then ([],s1,k0) else
 let p:=if s1.term<m.N.getD 0 0 then be s1 k0 (m.N.getD 0 0) (-1) else (true,s1,k0)
 if p.1 then
  let s:=p.2.1
  let k:=p.2.2
  if m.kind=1 then dW s k m
  else if m.kind=2 then eF s k m
  else if m.kind=3 then dH s k m
  else if m.kind=4 then ((bR s m).1,(bR s m).2,k)
  else if m.kind=5 then (if m.N.length=3 then ([],{ s with heard:=s.heard.set m.frm.toNat ((s.clock:Int),m.N.getD 1 0,m.N.getD 2 0)},k) else ([],s,k))
  else ([],s,k)
 else ([],p.2)
def cU (s:Rp):List (List UInt8):=recs (s.log.take s.agreed)
end Go.Proofs.YtnhefallmioefaaGreat
