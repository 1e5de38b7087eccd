/-
  What the proof of the law leans on: contracts of the program's functions, one behind another. No condition.
-/
import Derived.Test.YtnhefallmioefaaGreatV0
import Derived.Deep.AppendLies
import Derived.Test.YtnhefallmioefaaGreatV12
import Derived.Test.YtnhefallmioefaaGreatV10
import Derived.Test.YtnhefallmioefaaGreatV3
set_option linter.unusedVariables false
set_option linter.unusedSimpArgs false
namespace Go.Proofs.YtnhefallmioefaaGreat
open Go.RowKit Go.ChangeMaps Go.WideMaps Go.Maps
set_option maxRecDepth 20000
theorem tP:(Tryz.prog.info? 83).map (λi=>(i.zero,i.size,i.bytes))=some (some (.agg #[.int .i64 0,.int .i64 0,.int .i64 0,.slice none 0 0,.slice none 0 0]),5,72):=by kernel_rfl
structure MsV where
 m:Msg
 v:Value
 u:Value
def B0:MsV:=⟨⟨0,0,0,[],[]⟩,.slice none 0 0,.slice none 0 0⟩
def dB (x:MsV):List Value:=[.int .i64 x.m.frm,.int .i64 x.m.dst,.int .i64 x.m.kind,x.v,x.u]
def dV (l:List MsV):List Value:=l.flatMap dB
theorem jr (l:List MsV):(dV l).length=l.length*5:=by
 induction l with
 | nil=>rfl
 | cons s l ih=>simp only [dV,kG,ay,aY] at ih ⊢;rw [ih];simp [dB];omega
theorem gw (l m:List MsV):dV (l++m)=dV l++dV m:=by simp [dV]
theorem uo (l:List MsV) (i j:Nat) (hi:i<l.length) (hj:j<5):(dV l)[i*5+j]? = (dB (l.getD i B0))[j]? := by
 induction l generalizing i with
 | nil=>simp at hi
 | cons s l ih =>
  cases i with
  | zero =>
   rw [show dV (s::l)=dB s++dV l from rfl,cI (by simp [dB];omega)];simp
  | succ i =>
   rw [show dV (s::l)=dB s++dV l from rfl,fk (by simp [dB];omega)];have:=ih i (by simpa using hi);rw [show (i+1)*5+j - (dB s).length=i*5+j by simp [dB];omega,this];simp
structure OwnMs (w:World) (A:List Nat) (base:Nat) (v:Value) (ms:List Msg):Prop where
 ex:∃ps:List MsV,ps.map MsV.m=ms/\w.ownsRow base 83 5 v ms.length (dV ps)/\∀x∈ps,IsMsg w (A++v.ownBlock.toList) x.m x.v x.u
theorem IsMsg.one {w:World} {A:List Nat} {m:Msg} {v u:Value} (h:IsMsg w A m v u):v.oneCell'=true/\u.oneCell'=true:=by
 obtain ⟨⟨ao,c,rfl,_⟩,h2⟩:=h;refine ⟨rfl,?_⟩;rcases h2 with ⟨rfl,_⟩ | ⟨g,c,cur,rfl,_⟩<;>rfl
theorem OwnMs.nil (w:World) (A:List Nat) (base:Nat):OwnMs w A base (.slice none 0 0) []:=⟨⟨[],rfl,World.ownsRow_nil _ _ _ _,λx hx=>by cases hx⟩⟩
theorem OwnMs.below {w w':World} {A:List Nat} {base:Nat} {v:Value} {ms:List Msg} (h:OwnMs w A base v ms) (hb:Below w.heap.size w w'):OwnMs w' A base v ms:=by
 obtain ⟨ps,h1,h2,h3⟩:=h;exact ⟨ps,h1,gb h2 hb,λx hx=>(h3 x hx).below hb⟩
theorem OwnMs.mono {w:World} {A:List Nat} {base base':Nat} {v:Value} {ms:List Msg} (h:OwnMs w A base v ms) (hb:base'<=base):OwnMs w A base' v ms:=by
 obtain ⟨ps,h1,h2,h3⟩:=h;exact ⟨ps,h1,dP h2 hb,h3⟩
theorem OwnMs.lt {w:World} {A:List Nat} {base:Nat} {v:Value} {ms:List Msg} (h:OwnMs w A base v ms):∀k∈v.ownBlock.toList,base<=k/\k<w.heap.size:=by
 obtain ⟨ps,h1,h2,h3⟩:=h;intro k hk;exact World.ownsRow.lt h2 k (by simpa using hk)
theorem OwnMs.shape {w:World} {A:List Nat} {base:Nat} {v:Value} {ms:List Msg} (h:OwnMs w A base v ms):∃ao c,v = .slice ao ms.length c/\ms.length<=c/\c<=9223372036854775807:=by
 obtain ⟨ps,h1,h2,h3⟩:=h;exact du h2
theorem fZ {w:World} {ops:Array Oper} {rest:List Oper} {o:Oper} {a:Act} {Q:Exit->Act->World->Prop} {A:List Nat} (hgd:o.guard=none) (s x:Operand)
  (ho:o.op = .call { callee:=.builtin .append,args:=#[s,x],argTypes:=#[64,64]})
  (base:Nat) (vs:Value) (ms:List Msg) (hs:a.eval s=vs) (hown:OwnMs w A base vs ms)
  (H:Nat) (m:Msg) (v u:Value) (hx:a.eval x = .slice (some ⟨H,0,none⟩) 1 1) (hcell:w.heap[H]? = some (.cells #[.int .i64 m.frm,.int .i64 m.dst,.int .i64 m.kind,v,u] 83 (0,0))) (hel:IsMsg w (A++vs.ownBlock.toList) m v u)
  (hbytes:ms.length+1<=100000) (hbase:base<=w.heap.size)
  (h:∀v' w',OwnMs w' A base v' (ms++[m])->Only vs.ownBlock.toList w w'->wpList Tryz.prog ops Q rest (a.put o.dst v') w'):wpList Tryz.prog ops Q (o::rest) a w:=by
 obtain ⟨i0,hi0,hz0,hz1,hz2⟩:=info_parts tP;obtain ⟨ps,h1,h2,h3⟩:=hown;have hone:∀y∈dB ⟨m,v,u⟩,y.oneCell'=true:=by
  intro y hy;simp only [dB,bg,gp,or_false] at hy;rcases hy with rfl | rfl | rfl | rfl | rfl
  ·rfl
  ·rfl
  ·rfl
  ·exact hel.one.1
  ·exact hel.one.2
 refine wpList_append_lies w hgd s x 64 ho base 83 i0 _ 5 72 Tryz.underlying64 hi0 hz0 hz1 hz2 rfl (by decide) vs _ _ hs h2 ⟨H,0,none⟩ 1 1 (dB ⟨m,v,u⟩) hx rfl ?_ hone (by decide) (by unfold maxLen;omega) (by omega) hbase w.heap.size rfl ?_
 ·intro j y hj;rw [Addr.add_lit,cy,af hcell,<-hj];simp [dB]
 ·intro g cap w' g1 g2 g3 _;have hon:=je g2;have hsub:∀b∈vs.ownBlock.toList,b∈A++vs.ownBlock.toList:=λb hb=>aO _ hb;have hext:Ext (A++vs.ownBlock.toList) (A++(Value.slice (some ⟨g,0,none⟩) (ms.length+1) cap).ownBlock.toList) w:=λb hb=>by
   rcases ap.1 hb with hb | hb
   ·exact .inl (aG _ hb)
   ·have hbg:b=g:=by simp [Value.ownBlock] at hb;exact hb
    rw [hbg];rcases g3 with g3 | g3
    ·exact .inl (aO _ (by simp [g3]))
    ·exact .inr (by omega)
  refine h _ w' ⟨ps++[⟨m,v,u⟩],by simp [h1],by rw [ay,gw];simpa [dV] using g1,λy hy=>?_⟩ hon;rcases ap.1 hy with hy | hy
  ·exact (h3 y hy).step hon hsub hext
  ·obtain rfl:=aj.1 hy;exact hel.step hon hsub hext
section
variable {w w':World} {A A' X X':List Nat} {r d l:Nat} {s s':Rp} {k k':Dk}
theorem Nd.more (h:Nd w A X r d l s k) (hb:Below w.heap.size w w') {B:List Nat} (hB:∀b∈B,w.heap.size<=b/\b<w'.heap.size):Nd w' (A++B) X r d l s k:=by
 obtain ⟨D,L,R,vl,gv,gn,gm,gh,h,hX⟩:=h;have ho:=Only.ofBelow hb [];have he:Ext A (A++B) w:=λb hb=>by
  rcases ap.1 hb with hb | hb
  ·exact .inl hb
  ·exact .inr (hB b hb).1
 have h0:∀b∈([]:List Nat),b∈A:=λb hb=>by cases hb
 refine ⟨D,L,R,vl,gv,gn,gm,gh,⟨⟨h.wd.wl.keep ho (by simp) h0 he,h.wd.dk.below hb,h.wd.dis,λb hb=>aG _ (h.wd.dA b hb),λb hb=>aG _ (h.wd.lA b hb),λb hb2=>?_⟩,ho.keeps h.cell (by simp),h.log.step ho h0 he,ho.keeps h.votes (by simp),ho.keeps h.next (by simp),ho.keeps h.mat (by simp),ho.keeps h.heard (by simp),h.nm,h.rR,h.vR,h.nR,h.mR,h.hR,h.dRD,h.dRL,λb hb=>aG _ (h.rA b hb)⟩,hX⟩;rcases ap.1 hb2 with h1 | h1
 ·exact aE (h.wd.alt b h1) hb.size
 ·exact (hB b h1).2
theorem ja (s:Rp) (f:Nat->Msg) (i:Nat):((List.range (i+1)).filter λj=>j != s.own).map f=(((List.range i).filter λj=>j != s.own).map f)++(if i=s.own then [] else [f i]):=by
 rw [dT,cT,bS];by_cases h:i=s.own
 ·simp [h]
 ·simp [h]
set_option maxHeartbeats 2000000 in
theorem gk (h:Nd w A X r d l s k) (hn:s.n<=5) (hw:Wf s k) (hnx:∀i,i<s.n->s.next.getD i 0<=s.log.length):Calls Tryz.prog 62 #[.pointer (some ⟨r,0,none⟩),.func (.func 63) #[.pointer (some ⟨r,0,none⟩)] #[]] w λe w'=>∃v,e = .returned v/\OwnMs w' A w.heap.size v (cR s (bQ s))/\Below w.heap.size w w':=by
 have HF:Hid (∀W B,Below w.heap.size w W->(∀b∈B,w.heap.size<=b/\b<W.heap.size)->∀i,i<s.n->i≠s.own->Calls Tryz.prog 63 #[.pointer (some ⟨r,0,none⟩),.int .i64 (i:Int)] W λe w'=>∃v u,e = .returned (df (bQ s i) v u)/\IsMsg w' (A++B) (bQ s i) v u/\Below W.heap.size W w'):=ab (λW B hb hB i hi hne=>kz (h.more hb hB) hw i hi (hnx i hi));obtain ⟨vl,gv,gn,gm,gh,hcell⟩:=h.cells;have hc0:w.cell? ⟨r,0,none⟩=some (.int .i64 (s.own:Int)):=by rw [af hcell];rfl
 have hc1:w.cell? ⟨r,1,none⟩=some (.int .i64 (s.n:Int)):=by rw [af hcell];rfl
 have HWA:=ab h.alt;have HST:=ab (ja s (bQ s));have HALL:Hid (cR s (bQ s)=((List.range s.n).filter λj=>j != s.own).map (bQ s)):=ab rfl;have HLE:Hid (∀i,(((List.range i).filter λj=>j != s.own).map (bQ s)).length<=i):=ab (λi=>by
  rw [aP];exact aD (di _ _) (by simp))
 have H0:Hid (((List.range 0).filter λj=>j != s.own).map (bQ s)=[]):=ab (by simp);clear h hcell hw hnx;generalize hcc:(λi=>((List.range i).filter λj=>j != s.own).map (bQ s))=cc at *;have HCC:Hid (∀i,((List.range i).filter λj=>j != s.own).map (bQ s)=cc i):=ab (λi=>by rw [<-hcc]);clear hcc;simp only [HCC.out] at HST HALL HLE H0;clear HCC;generalize hff:bQ s=ff at *;clear hff;generalize s.n=n at *;generalize s.own=ow at *;go_enter Tryz.func62,Tryz.ntmps62
 go_wp2_with fail
 go_loopw [11,5] (λi v wr=>∃j:Nat,j<=n/\i = .int .i64 (j:Int)/\OwnMs wr A w.heap.size v (cc j)/\Below w.heap.size w wr) (λi _ _=>n - (intOf i).toNat)
 case atStart=>exact ⟨0,aH _,rfl,by rw [H0.out];exact OwnMs.nil _ _ _,az _ _⟩
 case round =>
  obtain ⟨j,hj,rfl,ho,hb⟩:=hrel;have HO:=ab ho;have HB:=ab hb;have hk0:=cell_later hb hc0;clear ho hb;obtain ⟨ao,c,rfl,_,_⟩:=HO.out.shape;have q6:IntKind.i64.wrap ((j:Int)+1)=(j:Int)+1:=IntWalk.i64_in _ (by omega);have HSJ:=ab (HST.out j);have HLJ:=ab (HLE.out j);by_cases hlt:j<n
  ·have q5:(j:Int)<(n:Int):=by omega
   by_cases hjo:j=ow
   ·rw [aA hjo,eo] at HSJ;have g1:((j:Int) != (ow:Int))=false:=by simp [hjo]
    clear hlt hjo;go_wp2_with fail
    go_roundw
    case rel=>exact ⟨j+1,by omega,rfl,by rw [HSJ.out];exact HO.out,HB.out⟩
    case measure=>simp [intOf];omega
   ·rw [aw hjo] at HSJ;have g1:((j:Int) != (ow:Int))=true:=(by rw [qz];omega)
    have HC:=ab (HF.out wr _ HB.out HO.out.lt j hlt hjo);clear hlt hjo;go_wp2_with fail
    refine HC.out.mono ?_;rintro e w2 ⟨v,u,rfl,hm2,hb2⟩;have hO2:=HO.out.below hb2;have HB2:=ab (HB.out.trans (hb2.mono HB.out.size));have ho1:=hm2.one;unfold df;have hbB:Below w2.heap.size w2 (w2.alloc (.cells #[.int .i64 (ff j).frm,.int .i64 (ff j).dst,.int .i64 (ff j).kind,v,u] 83)):=(az _ _).alloc (ah _) _;have HM3:=ab (hm2.below hbB);have HO3:=ab (hO2.below hbB);have HB3:=ab (HB2.out.alloc HB2.out.size (.cells #[.int .i64 (ff j).frm,.int .i64 (ff j).dst,.int .i64 (ff j).kind,v,u] 83));have HX3:=ab (aK w2 (.cells #[.int .i64 (ff j).frm,.int .i64 (ff j).dst,.int .i64 (ff j).kind,v,u] 83));clear hm2 hb2 hO2 hbB;go_wp2_with (at_builtin;refine fZ rfl (.tmp 20) (.tmp 24) rfl w.heap.size (.slice ao (cc j).length c) (cc j) rfl HO3.out w2.heap.size (ff j) v u rfl HX3.out HM3.out (by have:=HLJ.out;omega) HB3.out.size ?_)
    intro v4 w4 ho4 hon4;have HO4:=ab ho4;have HB4:=ab (HB3.out.trans (hon4.below HB3.out.size (λb hb=>(HO3.out.lt b hb).1)));clear ho4 hon4;go_wp2_with fail
    case roundEnd=>exact ⟨⟨j+1,by omega,rfl,by rw [HSJ.out];exact HO4.out,HB4.out⟩,by simp [intOf];omega⟩
  ·obtain rfl:j=n:=by omega
   go_wp2_with fail
   go_ret
   rw [HALL.out];exact ⟨_,rfl,HO.out,HB.out⟩
set_option maxHeartbeats 2000000 in
theorem kR (h:Nd w A X r d l s k) (hn:s.n<=5) (hl:s.log.length<=1000000) (p:Nat) (hp:w.cell? ⟨p,0,none⟩=some (.pointer (some ⟨r,0,none⟩))):Calls Tryz.prog 62 #[.pointer (some ⟨r,0,none⟩),.func (.func 66) #[] #[.pointer (some ⟨p,0,none⟩)]] w λe w'=>∃v,e = .returned v/\OwnMs w' A w.heap.size v (cR s (bp s 5))/\Below w.heap.size w w':=by
 have HF:Hid (∀W B,Below w.heap.size w W->(∀b∈B,w.heap.size<=b/\b<W.heap.size)->∀i,i<s.n->i≠s.own->Calls Tryz.prog 66 #[.int .i64 (i:Int),.pointer (some ⟨p,0,none⟩)] W λe w'=>∃v u,e = .returned (df (bp s 5 i) v u)/\IsMsg w' (A++B) (bp s 5 i) v u/\Below W.heap.size W w'):=ab (λW B hb hB i hi hne=>vn (h.more hb hB) hl p i (cell_later hb hp));obtain ⟨vl,gv,gn,gm,gh,hcell⟩:=h.cells;have hc0:w.cell? ⟨r,0,none⟩=some (.int .i64 (s.own:Int)):=by rw [af hcell];rfl
 have hc1:w.cell? ⟨r,1,none⟩=some (.int .i64 (s.n:Int)):=by rw [af hcell];rfl
 have HWA:=ab h.alt;have HST:=ab (ja s (bp s 5));have HALL:Hid (cR s (bp s 5)=((List.range s.n).filter λj=>j != s.own).map (bp s 5)):=ab rfl;have HLE:Hid (∀i,(((List.range i).filter λj=>j != s.own).map (bp s 5)).length<=i):=ab (λi=>by
  rw [aP];exact aD (di _ _) (by simp))
 have H0:Hid (((List.range 0).filter λj=>j != s.own).map (bp s 5)=[]):=ab (by simp);clear h hcell hl hp;generalize hcc:(λi=>((List.range i).filter λj=>j != s.own).map (bp s 5))=cc at *;have HCC:Hid (∀i,((List.range i).filter λj=>j != s.own).map (bp s 5)=cc i):=ab (λi=>by rw [<-hcc]);clear hcc;simp only [HCC.out] at HST HALL HLE H0;clear HCC;generalize hff:bp s 5=ff at *;clear hff;generalize s.n=n at *;generalize s.own=ow at *;go_enter Tryz.func62,Tryz.ntmps62
 go_wp2_with fail
 go_loopw [11,5] (λi v wr=>∃j:Nat,j<=n/\i = .int .i64 (j:Int)/\OwnMs wr A w.heap.size v (cc j)/\Below w.heap.size w wr) (λi _ _=>n - (intOf i).toNat)
 case atStart=>exact ⟨0,aH _,rfl,by rw [H0.out];exact OwnMs.nil _ _ _,az _ _⟩
 case round =>
  obtain ⟨j,hj,rfl,ho,hb⟩:=hrel;have HO:=ab ho;have HB:=ab hb;have hk0:=cell_later hb hc0;clear ho hb;obtain ⟨ao,c,rfl,_,_⟩:=HO.out.shape;have q6:IntKind.i64.wrap ((j:Int)+1)=(j:Int)+1:=IntWalk.i64_in _ (by omega);have HSJ:=ab (HST.out j);have HLJ:=ab (HLE.out j);by_cases hlt:j<n
  ·have q5:(j:Int)<(n:Int):=by omega
   by_cases hjo:j=ow
   ·rw [aA hjo,eo] at HSJ;have g1:((j:Int) != (ow:Int))=false:=by simp [hjo]
    clear hlt hjo;go_wp2_with fail
    go_roundw
    case rel=>exact ⟨j+1,by omega,rfl,by rw [HSJ.out];exact HO.out,HB.out⟩
    case measure=>simp [intOf];omega
   ·rw [aw hjo] at HSJ;have g1:((j:Int) != (ow:Int))=true:=(by rw [qz];omega)
    have HC:=ab (HF.out wr _ HB.out HO.out.lt j hlt hjo);clear hlt hjo;go_wp2_with fail
    refine HC.out.mono ?_;rintro e w2 ⟨v,u,rfl,hm2,hb2⟩;have hO2:=HO.out.below hb2;have HB2:=ab (HB.out.trans (hb2.mono HB.out.size));have ho1:=hm2.one;unfold df;have hbB:Below w2.heap.size w2 (w2.alloc (.cells #[.int .i64 (ff j).frm,.int .i64 (ff j).dst,.int .i64 (ff j).kind,v,u] 83)):=(az _ _).alloc (ah _) _;have HM3:=ab (hm2.below hbB);have HO3:=ab (hO2.below hbB);have HB3:=ab (HB2.out.alloc HB2.out.size (.cells #[.int .i64 (ff j).frm,.int .i64 (ff j).dst,.int .i64 (ff j).kind,v,u] 83));have HX3:=ab (aK w2 (.cells #[.int .i64 (ff j).frm,.int .i64 (ff j).dst,.int .i64 (ff j).kind,v,u] 83));clear hm2 hb2 hO2 hbB;go_wp2_with (at_builtin;refine fZ rfl (.tmp 20) (.tmp 24) rfl w.heap.size (.slice ao (cc j).length c) (cc j) rfl HO3.out w2.heap.size (ff j) v u rfl HX3.out HM3.out (by have:=HLJ.out;omega) HB3.out.size ?_)
    intro v4 w4 ho4 hon4;have HO4:=ab ho4;have HB4:=ab (HB3.out.trans (hon4.below HB3.out.size (λb hb=>(HO3.out.lt b hb).1)));clear ho4 hon4;go_wp2_with fail
    case roundEnd=>exact ⟨⟨j+1,by omega,rfl,by rw [HSJ.out];exact HO4.out,HB4.out⟩,by simp [intOf];omega⟩
  ·obtain rfl:j=n:=by omega
   go_wp2_with fail
   go_ret
   rw [HALL.out];exact ⟨_,rfl,HO.out,HB.out⟩
set_option maxHeartbeats 2000000 in
theorem oB (h:Nd w A X r d l s k) (hn:s.n<=5) (hl:s.log.length<=1000000) (p:Nat) (hp:w.cell? ⟨p,0,none⟩=some (.pointer (some ⟨r,0,none⟩))):Calls Tryz.prog 62 #[.pointer (some ⟨r,0,none⟩),.func (.func 92) #[] #[.pointer (some ⟨p,0,none⟩)]] w λe w'=>∃v,e = .returned v/\OwnMs w' A w.heap.size v (cR s (bp s 1))/\Below w.heap.size w w':=by
 have HF:Hid (∀W B,Below w.heap.size w W->(∀b∈B,w.heap.size<=b/\b<W.heap.size)->∀i,i<s.n->i≠s.own->Calls Tryz.prog 92 #[.int .i64 (i:Int),.pointer (some ⟨p,0,none⟩)] W λe w'=>∃v u,e = .returned (df (bp s 1 i) v u)/\IsMsg w' (A++B) (bp s 1 i) v u/\Below W.heap.size W w'):=ab (λW B hb hB i hi hne=>sY (h.more hb hB) hl p i (cell_later hb hp));obtain ⟨vl,gv,gn,gm,gh,hcell⟩:=h.cells;have hc0:w.cell? ⟨r,0,none⟩=some (.int .i64 (s.own:Int)):=by rw [af hcell];rfl
 have hc1:w.cell? ⟨r,1,none⟩=some (.int .i64 (s.n:Int)):=by rw [af hcell];rfl
 have HWA:=ab h.alt;have HST:=ab (ja s (bp s 1));have HALL:Hid (cR s (bp s 1)=((List.range s.n).filter λj=>j != s.own).map (bp s 1)):=ab rfl;have HLE:Hid (∀i,(((List.range i).filter λj=>j != s.own).map (bp s 1)).length<=i):=ab (λi=>by
  rw [aP];exact aD (di _ _) (by simp))
 have H0:Hid (((List.range 0).filter λj=>j != s.own).map (bp s 1)=[]):=ab (by simp);clear h hcell hl hp;generalize hcc:(λi=>((List.range i).filter λj=>j != s.own).map (bp s 1))=cc at *;have HCC:Hid (∀i,((List.range i).filter λj=>j != s.own).map (bp s 1)=cc i):=ab (λi=>by rw [<-hcc]);clear hcc;simp only [HCC.out] at HST HALL HLE H0;clear HCC;generalize hff:bp s 1=ff at *;clear hff;generalize s.n=n at *;generalize s.own=ow at *;go_enter Tryz.func62,Tryz.ntmps62
 go_wp2_with fail
 go_loopw [11,5] (λi v wr=>∃j:Nat,j<=n/\i = .int .i64 (j:Int)/\OwnMs wr A w.heap.size v (cc j)/\Below w.heap.size w wr) (λi _ _=>n - (intOf i).toNat)
 case atStart=>exact ⟨0,aH _,rfl,by rw [H0.out];exact OwnMs.nil _ _ _,az _ _⟩
 case round =>
  obtain ⟨j,hj,rfl,ho,hb⟩:=hrel;have HO:=ab ho;have HB:=ab hb;have hk0:=cell_later hb hc0;clear ho hb;obtain ⟨ao,c,rfl,_,_⟩:=HO.out.shape;have q6:IntKind.i64.wrap ((j:Int)+1)=(j:Int)+1:=IntWalk.i64_in _ (by omega);have HSJ:=ab (HST.out j);have HLJ:=ab (HLE.out j);by_cases hlt:j<n
  ·have q5:(j:Int)<(n:Int):=by omega
   by_cases hjo:j=ow
   ·rw [aA hjo,eo] at HSJ;have g1:((j:Int) != (ow:Int))=false:=by simp [hjo]
    clear hlt hjo;go_wp2_with fail
    go_roundw
    case rel=>exact ⟨j+1,by omega,rfl,by rw [HSJ.out];exact HO.out,HB.out⟩
    case measure=>simp [intOf];omega
   ·rw [aw hjo] at HSJ;have g1:((j:Int) != (ow:Int))=true:=(by rw [qz];omega)
    have HC:=ab (HF.out wr _ HB.out HO.out.lt j hlt hjo);clear hlt hjo;go_wp2_with fail
    refine HC.out.mono ?_;rintro e w2 ⟨v,u,rfl,hm2,hb2⟩;have hO2:=HO.out.below hb2;have HB2:=ab (HB.out.trans (hb2.mono HB.out.size));have ho1:=hm2.one;unfold df;have hbB:Below w2.heap.size w2 (w2.alloc (.cells #[.int .i64 (ff j).frm,.int .i64 (ff j).dst,.int .i64 (ff j).kind,v,u] 83)):=(az _ _).alloc (ah _) _;have HM3:=ab (hm2.below hbB);have HO3:=ab (hO2.below hbB);have HB3:=ab (HB2.out.alloc HB2.out.size (.cells #[.int .i64 (ff j).frm,.int .i64 (ff j).dst,.int .i64 (ff j).kind,v,u] 83));have HX3:=ab (aK w2 (.cells #[.int .i64 (ff j).frm,.int .i64 (ff j).dst,.int .i64 (ff j).kind,v,u] 83));clear hm2 hb2 hO2 hbB;go_wp2_with (at_builtin;refine fZ rfl (.tmp 20) (.tmp 24) rfl w.heap.size (.slice ao (cc j).length c) (cc j) rfl HO3.out w2.heap.size (ff j) v u rfl HX3.out HM3.out (by have:=HLJ.out;omega) HB3.out.size ?_)
    intro v4 w4 ho4 hon4;have HO4:=ab ho4;have HB4:=ab (HB3.out.trans (hon4.below HB3.out.size (λb hb=>(HO3.out.lt b hb).1)));clear ho4 hon4;go_wp2_with fail
    case roundEnd=>exact ⟨⟨j+1,by omega,rfl,by rw [HSJ.out];exact HO4.out,HB4.out⟩,by simp [intOf];omega⟩
  ·obtain rfl:j=n:=by omega
   go_wp2_with fail
   go_ret
   rw [HALL.out];exact ⟨_,rfl,HO.out,HB.out⟩
end
theorem oe (k:Dk) (b:List UInt8):eP (jI k b)=eP k++b:=by
 unfold eP jI;cases k.file with
 | none=>simp [Ak]
 | some p=>rfl
theorem pw (k:Dk) (b:List UInt8):(jI k b).room=k.room:=by
 unfold jI;cases k.file<;>rfl
structure Wg (s:Rp):Prop where
 n1:1<=s.n
 n5:s.n<=5
 own:s.own<s.n
 vl:s.votes.length=s.n
 nl:s.next.length=s.n
 ml:s.mat.length=s.n
 hl:s.heard.length=s.n
 agr:s.agreed<=s.log.length
 man:s.many=(recs (s.log.take s.agreed)).length
 lead:s.leads=true->∀i,s.next.getD i 0<=s.log.length/\s.mat.getD i 0<=s.log.length
 term0:0<=s.term
 termM:s.term<=1099511627776
 cho : -1<=s.choice
 choM:s.choice<s.n
 recl:∀x∈s.log,x.bs.length<=8000
 tick:s.ticks<=s.clock
 hrd:∀x∈s.heard,0<=x.1/\x.1<=(s.clock:Int)
structure Wk (r:List (List UInt8)) (len:Nat) (k:Dk):Prop where
 room:k.room<=1048576
 tot:(k.total:Int)<=k.room
 fil:eP k=F.aL r
 logl:len<=r.length
theorem Wf.g {s:Rp} {k:Dk} (h:Wf s k):Wg s:=⟨h.n1,h.n5,h.own,h.vl,h.nl,h.ml,h.hl,h.agr,h.man,h.lead,h.term0,h.termM,h.cho,h.choM,h.recl,h.tick,h.hrd⟩
theorem Wf.k {s:Rp} {k:Dk} (h:Wf s k):Wk s.wl.recs s.log.length k:=⟨h.room,h.tot,h.fil,h.logl⟩
theorem Wg.wf {s:Rp} {k:Dk} (h:Wg s) (hk:Wk s.wl.recs s.log.length k):Wf s k:=⟨h.n1,h.n5,h.own,h.vl,h.nl,h.ml,h.hl,hk.room,hk.tot,hk.fil,hk.logl,h.agr,h.man,h.lead,h.term0,h.termM,h.cho,h.choM,h.recl,h.tick,h.hrd⟩
theorem Wk.mono {r:List (List UInt8)} {a b:Nat} {k:Dk} (h:Wk r a k) (hb:b<=a):Wk r b k:=⟨h.room,h.tot,h.fil,aD hb h.logl⟩
theorem Ce {s:Wl} {k:Dk} {len:Nat} (h:Wk s.recs len k) (b:List UInt8):Wk (fc s k b).2.1.recs len (fc s k b).2.2/\((fc s k b).1=0->(fc s k b).2.1.recs.length=s.recs.length+1):=by
 unfold fc;split
 ·exact ⟨h,λe=>by simp at e⟩
 ·split
  ·exact ⟨h,λe=>by simp at e⟩
  ·split
   ·exact ⟨h,λe=>by simp at e⟩
   ·rename_i h3;refine ⟨⟨by rw [pw];exact h.room,?_,?_,?_⟩,λ_=>by simp⟩
    ·rw [eG,pw,oe,ay,F.cX];rw [eG] at h3;omega
    ·rw [oe,h.fil];simp [F.aL]
    ·have:=h.logl;simp;omega
theorem AD {s:Wl} {k:Dk} {len:Nat} (h:Wk s.recs len k):Wk (fQ s k).2.1.recs len (fQ s k).2.2:=by
 unfold fQ;split
 ·exact h
 ·split
  ·exact h
  ·rename_i bl kk hf;refine ⟨h.room,?_,?_,h.logl⟩
   ·have:=h.tot;unfold Dk.total at this ⊢;rw [hf] at this;exact this
   ·have:=h.fil;unfold eP at this ⊢;rw [hf] at this;exact this
section
variable {s:Rp} {k:Dk}
theorem Wg.done (h:Wg s) (w:Wl) (b:Bool):Wg { s with wl:=w,done:=b }:=⟨h.n1,h.n5,h.own,h.vl,h.nl,h.ml,h.hl,h.agr,h.man,h.lead,h.term0,h.termM,h.cho,h.choM,h.recl,h.tick,h.hrd⟩
theorem gt (h:Wf s k):Wf (aV s k) k:=(h.g.done s.wl (dQ s k)).wf h.k
theorem qF (h:Wf s k) (b:List UInt8):Wf (bB s k b).1 (bB s k b).2/\((bB s k b).1.done=false->s.log.length+1<=(bB s k b).1.wl.recs.length):=by
 unfold bB;split
 ·rename_i hd;exact ⟨h,λe=>by rw [hd] at e;cases e⟩
 ·obtain ⟨h1,h2⟩:=Ce h.k b;refine ⟨(h.g.done _ _).wf h1,λe=>?_⟩;have e2:(fc s.wl k b).1=0:=by simpa using e
  show s.log.length+1<=(fc s.wl k b).2.1.recs.length;rw [h2 e2];have:=h.logl;omega
theorem mE (h:Wf s k):Wf (bT s k).1 (bT s k).2:=by
 unfold bT;split
 ·exact h
 ·exact (h.g.done _ _).wf (AD h.k)
theorem ei (b:List UInt8):(bB s k b).1={ s with wl:=(bB s k b).1.wl,done:=(bB s k b).1.done }:=by
 unfold bB;split<;>rfl
theorem eO:(bT s k).1={ s with wl:=(bT s k).1.wl,done:=(bT s k).1.done }:=by
 unfold bT;split<;>rfl
theorem Wg.enter (h:Wg s) (b:Bool) (term who:Int) (h0:0<=term) (h1:term<=1099511627776) (h2 : -1<=who) (h3:who<s.n):Wg { s with leads:=s.leads&&b,term:=term,choice:=who } :=
 ⟨h.n1,h.n5,h.own,h.vl,h.nl,h.ml,h.hl,h.agr,h.man,λhl=>h.lead (by revert hl;cases s.leads<;>simp),h0,h1,h2,h3,h.recl,h.tick,h.hrd⟩
theorem iq (h:Wf s k) (term who:Int) (h0:0<=term) (h1:term<=1099511627776) (h2 : -1<=who) (h3:who<s.n):Wf (be s k term who).2.1 (be s k term who).2.2:=by
 have hw:=(qF h (dw term who)).1;have hn:(bB s k (dw term who)).1.n=s.n:=by rw [ei]
 unfold be;generalize bB s k (dw term who)=p at *;simp only;split
 ·exact hw
 ·have hs:=mE hw;have hn2:(bT p.1 p.2).1.n=p.1.n:=by rw [eO]
  generalize bT p.1 p.2=q at *;split
  ·exact hs
  ·exact (hs.g.enter _ term who h0 h1 h2 (by rw [hn2,hn];exact h3)).wf hs.k
theorem Wg.place (h:Wg s) (p:Nat) (x:Ent) (hp:p<=s.log.length) (ha:s.agreed<=p) (hl:s.leads=true->p=s.log.length) (hx:x.bs.length<=8000):Wg { s with log:=s.log.take p++[x]}:=by
 have hlen:(s.log.take p++[x]).length=p+1:=by simp [bi hp]
 refine ⟨h.n1,h.n5,h.own,h.vl,h.nl,h.ml,h.hl,?_,?_,λhl2 i=>?_,h.term0,h.termM,h.cho,h.choM,λy hy=>?_,h.tick,h.hrd⟩
 ·show s.agreed<=(s.log.take p++[x]).length;rw [hlen];omega
 ·show s.many=(recs ((s.log.take p++[x]).take s.agreed)).length;rw [cG (by simp [bi hp];omega),cB,bi ha];exact h.man
 ·have h1:=h.lead hl2 i;have h2:=hl hl2;show s.next.getD i 0<=(s.log.take p++[x]).length/\s.mat.getD i 0<=(s.log.take p++[x]).length;rw [hlen];omega
 ·rcases ap.1 hy with hy | hy
  ·exact h.recl y (eK hy)
  ·rw [aj.1 hy];exact hx
theorem kH (h:Wf s k) (p:Nat) (x:Ent) (hp:p<=s.log.length) (ha:s.agreed<=p) (hl:s.leads=true->p=s.log.length) (hx:x.bs.length<=8000):Wf (b8 s k p x).2.1 (b8 s k p x).2.2:=by
 obtain ⟨hw,hw2⟩:=qF h (db p x);have hs:=ei (s:=s) (k:=k) (db p x);unfold b8;generalize bB s k (db p x)=q at *;simp only;split
 ·exact hw
 ·rename_i hd;have hl1:q.1.log=s.log:=by rw [hs]
  have ha1:q.1.agreed=s.agreed:=by rw [hs]
  have hle:q.1.leads=s.leads:=by rw [hs]
  refine (hw.g.place p x (by rw [hl1];exact hp) (by rw [ha1];exact ha) (by rw [hle,hl1];exact hl) hx).wf ⟨hw.room,hw.tot,hw.fil,?_⟩;have:=hw2 (by simpa using hd);show (q.1.log.take p++[x]).length<=_;rw [hl1];simp [bi hp];omega
theorem mM (h:Wf s k) (x:Ent) (hx:x.bs.length<=8000):Wf (fg s k x).2.1 (fg s k x).2.2:=by
 have hp:=kH h s.log.length x (ah _) h.agr (λ_=>rfl) hx;unfold fg;generalize b8 s k s.log.length x=p at *;simp only;split
 ·exact mE hp
 ·exact hp
theorem qG (h:Wf s k) (n:Nat) (hn:n<=s.log.length):Wf (bM s n) k:=by
 unfold bM;split
 ·rename_i hlt;have hm:s.many+(recs ((s.log.take n).drop s.agreed)).length=(recs (s.log.take n)).length:=by
   rw [h.man];have e:s.log.take n=s.log.take s.agreed++(s.log.take n).drop s.agreed:=by
    conv=>lhs;rw [<-dh s.agreed (s.log.take n)]
    rw [cB,bi (by omega)]
   conv=>rhs;rw [e]
   unfold recs;rw [cT,bS,ay]
  exact ⟨h.n1,h.n5,h.own,h.vl,h.nl,h.ml,h.hl,h.room,h.tot,h.fil,h.logl,hn,hm,h.lead,h.term0,h.termM,h.cho,h.choM,h.recl,h.tick,h.hrd⟩
 ·exact h
theorem mr {l:List Nat} {i x b:Nat} (h:∀j,l.getD j 0<=b) (hx:x<=b) (j:Nat):(l.set i x).getD j 0<=b:=by
 have:=h j;rw [aF,hC] at *;split
 ·split
  ·simpa using hx
  ·simp
 ·exact this
theorem sS (h:Wf s k) (i x:Nat) (hx:s.leads=true->x<=s.log.length):Wf { s with mat:=s.mat.set i x } k :=
 ⟨h.n1,h.n5,h.own,h.vl,h.nl,by simpa using h.ml,h.hl,h.room,h.tot,h.fil,h.logl,h.agr,h.man,λhl j=>⟨(h.lead hl j).1,mr (λj=>(h.lead hl j).2) (hx hl) j⟩,h.term0,h.termM,h.cho,h.choM,h.recl,h.tick,h.hrd⟩
theorem mF (h:Wf s k) (i x:Nat) (hx:s.leads=true->x<=s.log.length):Wf { s with next:=s.next.set i x } k :=
 ⟨h.n1,h.n5,h.own,h.vl,by simpa using h.nl,h.ml,h.hl,h.room,h.tot,h.fil,h.logl,h.agr,h.man,λhl j=>⟨mr (λj=>(h.lead hl j).1) (hx hl) j,(h.lead hl j).2⟩,h.term0,h.termM,h.cho,h.choM,h.recl,h.tick,h.hrd⟩
theorem sZ (s:Rp) (n m:Nat) (h:settleF s n=some m):m<=n:=by
 induction n with
 | zero=>cases h
 | succ n ih =>
  unfold settleF at h;split at h
  ·split at h
   ·cases h;exact ah _
   ·exact Nat.le_succ_of_le (ih h)
  ·cases h
theorem fA (h:Wf s k):Wf (bI s).2 k:=by
 have h1:=sS h s.own s.log.length (λ_=>ah _);unfold bI;simp only;split
 ·rename_i m hm;exact qG h1 m (sZ _ _ _ hm)
 ·exact h1
def Same (s s':Rp):Prop:=∃w d l,s'={ s with wl:=w,done:=d,log:=l }
theorem Same.refl (s:Rp):Same s s:=⟨_,_,_,rfl⟩
theorem Same.trans {a b c:Rp} (h:Same a b) (g:Same b c):Same a c:=by
 obtain ⟨w,d,l,rfl⟩:=h;obtain ⟨w2,d2,l2,rfl⟩:=g;exact ⟨_,_,_,rfl⟩
theorem iY (b:List UInt8):Same s (bB s k b).1:=⟨_,_,_,ei b⟩
theorem iw:Same s (bT s k).1:=⟨_,_,_,eO⟩
theorem iZ (p:Nat) (x:Ent):Same s (b8 s k p x).2.1:=by
 have h:=iY (s:=s) (k:=k) (db p x);unfold b8;generalize bB s k (db p x)=q at *;simp only;split
 ·exact h
 ·exact h.trans ⟨_,_,_,rfl⟩
theorem kL (x:Ent):Same s (fg s k x).2.1:=by
 have h:=iZ (s:=s) (k:=k) s.log.length x;unfold fg;generalize b8 s k s.log.length x=q at *;simp only;split
 ·exact h.trans iw
 ·exact h
theorem sE (n:Nat):(bM s n).leads=s.leads:=by unfold bM;split<;>rfl
theorem iV:(bI s).2.leads=s.leads:=by
 unfold bI;simp only;split
 ·rw [sE]
 ·rfl
theorem BU (n:Nat):(bM s n).n=s.n:=by unfold bM;split<;>rfl
theorem yq:(bI s).2.n=s.n:=by
 unfold bI;simp only;split
 ·rw [BU]
 ·rfl
theorem eE (h:Wf s k) (lives:Int) (ticks clock:Nat) (votes:List Bool) (ht:ticks<=clock) (hv:votes.length=s.n) (hc:s.clock<=clock):Wf { s with lives:=lives,ticks:=ticks,clock:=clock,votes:=votes } k :=
 ⟨h.n1,h.n5,h.own,hv,h.nl,h.ml,h.hl,h.room,h.tot,h.fil,h.logl,h.agr,h.man,h.lead,h.term0,h.termM,h.cho,h.choM,h.recl,ht,λx hx=>⟨(h.hrd x hx).1,by have:=(h.hrd x hx).2;show x.1<=(clock:Int);omega⟩⟩
theorem mN (h:Wf s k):Wf { s with leads:=true,next:=List.replicate s.n s.log.length,mat:=List.replicate s.n 0 } k :=
 ⟨h.n1,h.n5,h.own,h.vl,by simp,by simp,h.hl,h.room,h.tot,h.fil,h.logl,h.agr,h.man,λ_ j=>⟨by
  show (List.replicate s.n s.log.length).getD j 0<=s.log.length;rw [aF,List.getElem?_replicate];split<;>simp,by
  show (List.replicate s.n 0).getD j 0<=s.log.length;rw [aF,List.getElem?_replicate];split<;>simp⟩,h.term0,h.termM,h.cho,h.choM,h.recl,h.tick,h.hrd⟩
theorem AF (h:Wf s k):Wf (fT s k).2.1 (fT s k).2.2:=by
 have h1:=mM (mN h) ⟨s.term,[]⟩ (by simp);unfold fT;simp only;split
 ·exact fA h1
 ·exact h1
end
def nC (s:Rp) (j:Nat):Rp:={ s with leads:=true,next:=List.replicate j s.log.length++s.next.drop j,mat:=List.replicate j 0++s.mat.drop j }
theorem ut (l:List Nat) (x j:Nat) (h:j<l.length):(List.replicate j x++l.drop j).set j x=List.replicate (j+1) x++l.drop (j+1):=by
 rw [List.set_append_right _ _ (by simp),gX,pA,dK h,qA,List.replicate_succ',bD];rfl
theorem zd (s:Rp) (j:Nat) (h1:j<s.next.length) (h2:j<s.mat.length):{ nC s j with next:=(nC s j).next.set j s.log.length,mat:=(nC s j).mat.set j 0 }=nC s (j+1):=by
 unfold nC;simp only;rw [ut _ _ _ h1,ut _ _ _ h2]
theorem Bh (s:Rp) (h1:s.next.length=s.n) (h2:s.mat.length=s.n):nC s s.n={ s with leads:=true,next:=List.replicate s.n s.log.length,mat:=List.replicate s.n 0 }:=by
 unfold nC;rw [AA (by omega),AA (by omega),eo,eo]
structure MsP (w w':World) (A X:List Nat) (r d l:Nat) (e:Ending) (p:List Msg×Rp×Dk):Prop where
 ex:∃v A' X',e = .returned v/\Nd w' A' X' r d l p.2.1 p.2.2/\OwnMs w' A' w.heap.size v p.1/\Mv A A' X X' w w'/\∀b,v.ownBlock=some b->b∉A'
section
variable {w w':World} {A A' X X':List Nat} {r d l:Nat} {s s':Rp} {k k':Dk}
theorem MsP.none (h:NdP w w' A X r d l s' k'):MsP w w' A X r d l (.returned (.slice none 0 0)) ([],s',k'):=by
 obtain ⟨A',X',h,m⟩:=h;exact ⟨_,A',X',rfl,h,OwnMs.nil _ _ _,m,(λb hb=>by cases hb)⟩
theorem MsP.trans {w'':World} {e:Ending} {p:List Msg×Rp×Dk} (m:Mv A A' X X' w w') (h:MsP w' w'' A' X' r d l e p):MsP w w'' A X r d l e p:=by
 obtain ⟨v,A2,X2,he,h,ho,m2,hv⟩:=h;exact ⟨v,A2,X2,he,h,ho.mono m.mv.only.size,m.trans m2,hv⟩
theorem gf {v:Value} {ms:List Msg} (h:Nd w A X r d l s k) (ho:OwnMs w' A w.heap.size v ms) (hb:Below w.heap.size w w'):MsP w w' A X r d l (.returned v) (ms,s,k) :=
 ⟨v,A,X,rfl,h.below hb,ho,Mv.below hb,λb hb2 hm=>by have:=(ho.lt b (by simp [hb2])).1;have:=h.alt b hm;omega⟩
theorem Bw (w:World) (A:List Nat):Imm w A (.slice none 0 0) []:=⟨none,0,rfl,fV w,ah _,(λp hp=>by cases hp)⟩
set_option maxHeartbeats 2000000 in
theorem rE (h:Nd w A X r d l s k) (hw:Wf s k):Calls Tryz.prog 91 #[.pointer (some ⟨r,0,none⟩)] w λe w'=>MsP w w' A X r d l e (fT s k):=by
 have HW:=ab hw;have HE:Hid (fT s k=(let s1:Rp:={ s with leads:=true,next:=List.replicate s.n s.log.length,mat:=List.replicate s.n 0 }
  let p:=fg s1 k ⟨s1.term,[]⟩
  if p.1 then (let s2:=(bI p.2.1).2;(cR s2 (bQ s2),s2,p.2.2)) else ([],p.2))):=ab rfl
 have HALL:=ab (Bh s hw.nl hw.ml);have HST:=ab (λj (hj:j<s.n)=>zd s j (by rw [hw.nl];exact hj) (by rw [hw.ml];exact hj));have HLL:Hid (∀j,(nC s j).log=s.log/\(nC s j).n=s.n):=ab (λj=>⟨rfl,rfl⟩);have HNL:Hid (∀j,j<=s.n->(nC s j).next.length=s.n/\(nC s j).mat.length=s.n):=ab (λj hj=>by
  unfold nC;simp [hw.nl,hw.ml];omega)
 obtain ⟨vl,gv,gn,gm,gh,hcell⟩:=h.cells;have hz11:=aM hcell 11;have hc11:w.cell? ⟨r,11,none⟩=some (.bool s.leads):=by rw [af hcell];rfl
 have hc1:w.cell? ⟨r,1,none⟩=some (.int .i64 (s.n:Int)):=by rw [af hcell];rfl
 have H0:Hid (NdP w (w.setCell ⟨r,11,none⟩ (.bool true)) A X r d l (nC s 0) k):=ab (by
  refine Nd.scal h ((Only.refl _ _).setCell (by simp) _) ?_ rfl rfl rfl ?_ ?_ rfl
  ·intro vl gv gn gm gh hc;rw [aR hc];rfl
  ·simp [nC]
  ·simp [nC])
 have hc1':(w.setCell ⟨r,11,none⟩ (.bool true)).cell? ⟨r,1,none⟩=some (.int .i64 (s.n:Int)):=by rw [af (aR hcell 11 _)];rfl
 have HW1:=ab (mN hw);have hn5:=hw.n5;have hlogb:=hw.logb;clear h hw hcell hc1;go_enter Tryz.func91,Tryz.ntmps91
 go_wp2_with fail
 go_loopw [11] (λi wr=>∃j:Nat,j<=s.n/\i = .int .i64 (j:Int)/\NdP w wr A X r d l (nC s j) k) (λi _=>s.n - (intOf i).toNat)
 case atStart=>exact ⟨0,aH _,rfl,H0.out⟩
 case round =>
  obtain ⟨j,hj,rfl,hn⟩:=hrel;clear hc1' hc11 hz11 H0;by_cases hlt:j<s.n
  ·obtain ⟨A1,X1,h1,m1⟩:=hn;obtain ⟨al,cl,hk8,hl1,hl2⟩:=h1.loglen;obtain ⟨D,L,R,vl,gv,gn,gm,gh,h2,hX2⟩:=h1;rw [(HLL.out j).1] at hk8 hl1;have hk13:wr.cell? ⟨r,13,none⟩=some (.slice (some ⟨gn,0,none⟩) s.n s.n):=by rw [af h2.cell];rfl
   have hk14:wr.cell? ⟨r,14,none⟩=some (.slice (some ⟨gm,0,none⟩) s.n s.n):=by rw [af h2.cell];rfl
   obtain ⟨hnl,hml⟩:=HNL.out j hj;have hcn:wr.cell? ⟨gn,j,none⟩=some (.int .i64 ((nC s j).next.getD j 0:Int)):=by rw [af h2.next];exact gA _ _ (by rw [hnl];exact hlt)
   have hcm:wr.cell? ⟨gm,j,none⟩=some (.int .i64 ((nC s j).mat.getD j 0:Int)):=by rw [af h2.mat];exact gA _ _ (by rw [hml];exact hlt)
   have hzn:=aM h2.next j;have hzm:=aM h2.mat j;have hj3:(j:Int)<(s.n:Int):=by omega
   have hj4:IntKind.i64.wrap ((j:Int)+1)=(j:Int)+1:=IntWalk.i64_in _ (by omega);have HK1:Hid (∀w3,w3=(wr.setCell ⟨gn,j,none⟩ (.int .i64 (s.log.length:Int))).drew\/w3=((wr.setCell ⟨gn,j,none⟩ (.int .i64 (s.log.length:Int))).setCell ⟨gm,j,none⟩ (.int .i64 0)).drew->w3.cell? ⟨r,13,none⟩=some (.slice (some ⟨gn,0,none⟩) s.n s.n)/\w3.cell? ⟨r,14,none⟩=some (.slice (some ⟨gm,0,none⟩) s.n s.n)/\w3.cell? ⟨r,8,none⟩=some (.slice al s.log.length cl)):=ab (λw3 e=>by
    have ho:Only [gn,gm] wr w3:=by
     rcases e with rfl | rfl
     ·exact ((Only.refl _ _).setCell (by simp) _).drewN 1
     ·exact (((Only.refl _ _).setCell (by simp) _).setCell (by simp) _).drewN 1
    have hne:r∉[gn,gm]:=by
     have e1:=bZ h2.cell h2.next (by decide);have e2:=bZ h2.cell h2.mat (by decide);simp [e1,e2]
    exact ⟨ho.cell hk13 hne,ho.cell hk14 hne,ho.cell hk8 hne⟩)
   have HR1:Hid (∀w3,w3=((wr.setCell ⟨gn,j,none⟩ (.int .i64 (s.log.length:Int))).setCell ⟨gm,j,none⟩ (.int .i64 0)).drew->NdP w w3 A X r d l (nC s (j+1)) k):=ab (λw3 e=>by
    have h3:=((h2.set_next j s.log.length).set_mat j 0).below (ak _ 1);have e2:=HST.out j hlt;rw [e];refine NdP.trans m1 (NdC.ndpR (vl:=vl) (gv:=gv) (gn:=gn) (gm:=gm) (gh:=gh) (s':=nC s (j+1)) ?_ hX2 (S:=[gn,gm]) ((((Only.refl _ _).setCell (by simp) _).setCell (by simp) _).drewN 1) ?_)
    ·rw [<-e2];exact h3
    ·intro b hb;simp at hb;rcases hb with rfl | rfl
     ·exact h2.nR
     ·exact h2.mR)
   have hcm2:(wr.setCell ⟨gn,j,none⟩ (.int .i64 (s.log.length:Int))).cell? ⟨gm,j,none⟩=some (.int .i64 ((nC s j).mat.getD j 0:Int)):=((Only.refl [gn] wr).setCell (p:=⟨gn,j,none⟩) (by simp) (.int .i64 (s.log.length:Int))).cell hcm (by simpa using h2.nm.symm);have hzm2:=aM (((Only.refl [gn] wr).setCell (p:=⟨gn,j,none⟩) (by simp) (.int .i64 (s.log.length:Int))).keeps h2.mat (by simpa using h2.nm.symm)) j;clear m1 h2 hX2 hlt hnl hml;generalize hsl:s.log.length=sl at *;generalize hsn:s.n=n at *;generalize (nC s j).next.getD j 0=x0 at *;generalize (nC s j).mat.getD j 0=y0 at *;go_upto_region 5 with (fail)
   refine wp_region_held_drew (S:=λw'=>w'.cell? ⟨r,13,none⟩=some (.slice (some ⟨gn,0,none⟩) n n)/\w'.cell? ⟨r,14,none⟩=some (.slice (some ⟨gm,0,none⟩) n n)/\w'.cell? ⟨r,8,none⟩=some (.slice al sl cl)) (by kernel_rfl) ⟨hk13,hk14,hk8⟩ (λam=>?_);refine aB 0 ?_;refine aB 1 ?_;refine aB 2 ?_;refine aB 3 ?_;refine aB 4 ?_;refine aB 5 ?_;refine aB 6 ?_;refine aB 7 ?_;refine aB 8 ?_;refine aB 9 ?_;refine aB 10 ?_;refine aB 11 ?_;refine aB 12 ?_;refine aB 13 ?_;refine aB 14 ?_;refine aB 15 ?_;refine cC 16 λK hK=>?_;go_simp
   refine hK.out _ _ (HK1.out _ (.inl rfl)) (λam=>?_);clear hK K;refine bH ?_;refine aB 17 ?_;refine cC 18 λK hK=>?_;go_simp
   refine hK.out _ _ (HK1.out _ (.inr rfl)) (λam=>?_);clear hK K;refine bH ?_;refine fI ?_;clear am;go_wp2_with fail
   go_roundw
   case rel=>exact ⟨j+1,by omega,rfl,HR1.out _ rfl⟩
   case measure=>simp [intOf];omega
  ·have hjn:j=s.n:=by omega
   subst hjn;rw [HALL.out] at hn;obtain ⟨A1,X1,h1,m1⟩:=hn;have H1:=ab h1;have M1:=ab m1;have HP:=ab (uy h1 HW1.out ⟨s.term,[]⟩ (by simp) (.slice none 0 0) (Bw _ _));have HWP:=ab (mM HW1.out ⟨s.term,[]⟩ (by simp));have HSP:=ab (kL (s:={ s with leads:=true,next:=List.replicate s.n s.log.length,mat:=List.replicate s.n 0 }) (k:=k) ⟨s.term,[]⟩);obtain ⟨vl,gv,gn,gm,gh,hcell⟩:=h1.cells;have hc6:wr.cell? ⟨r,6,none⟩=some (.int .i64 s.term):=by rw [af hcell];rfl
   clear h1 m1 hcell hlt;unfold sg at HP
   (try simp only at HE)
   generalize fg { s with leads:=true,next:=List.replicate s.n s.log.length,mat:=List.replicate s.n 0 } k ⟨s.term,[]⟩=p at *;obtain ⟨ok,s2,k2⟩:=p
   (try simp only at HE);(try simp only at HP);(try simp only at HWP);(try simp only at HSP)
   cases ok with
   | false =>
    rw [aw (by simp)] at HE;go_wp2_with fail
    refine HP.out.mono ?_;rintro e w2 ⟨rfl,hn2⟩;have HN2:=ab (hn2.trans M1.out);clear hn2;go_wp2_with fail
    go_ret
    rw [HE.out];exact MsP.none HN2.out
   | true =>
    rw [aA rfl] at HE;go_wp2_with fail
    refine HP.out.mono ?_;rintro e w2 ⟨rfl,A2,X2,h2,m2⟩;have H2:=ab h2;have M2:=ab (M1.out.trans m2);clear h2 m2;go_wp2_with fail
    refine (ke H2.out HWP.out).mono ?_;rintro e w3 ⟨rfl,A3,X3,h3,m3⟩;have H3:=ab h3;have M3:=ab (M2.out.trans m3);have HW3:=ab (fA HWP.out);have HL3:Hid ((bI s2).2.leads=true):=ab (by
     obtain ⟨w0,d0,l0,e0⟩:=HSP.out;rw [iV,e0])
    clear h3 m3;generalize (bI s2).1=ob at *;generalize (bI s2).2=s3 at *;go_wp2_with fail
    refine (gk H3.out HW3.out.n5 HW3.out (λi _=>(HW3.out.lead HL3.out i).1)).mono ?_;rintro e w4 ⟨v4,rfl,ho4,hb4⟩;have HF:=ab (MsP.trans M3.out (gf H3.out ho4 hb4));clear ho4 hb4;go_wp2_with fail
    go_ret
    rw [HE.out];exact HF.out
end
end Go.Proofs.YtnhefallmioefaaGreat
