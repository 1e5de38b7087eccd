/-
  What the proof of the law leans on: contracts of the program's functions, one behind another. No condition.
-/
import Derived.Test.YtnicaicjgaoolaaU0
import Derived.Deep.AppendLies
import Derived.Test.YtnicaicjgaoolaaU12
import Derived.Test.YtnicaicjgaoolaaU9
import Derived.Test.YtnicaicjgaoolaaU3
set_option linter.unusedVariables false
set_option linter.unusedSimpArgs false
namespace Go.Proofs.Ytnicaicjgaoolaa
open Go.RowKit Go.ChangeMaps Go.WideMaps Go.Maps
set_option maxRecDepth 20000
theorem tK:(Try.prog.info? 51).map (λi=>(i.zero,i.size,i.bytes))=some (some (.agg #[.int .i64 0,.int .i64 0,.int .i64 0,.slice none 0 0,.slice none 0 0]),5,72):=by kernel_rfl
structure MsV where
 m:Msg
 v:Value
 u:Value
def B1:MsV:=⟨⟨0,0,0,[],[]⟩,.slice none 0 0,.slice none 0 0⟩
def fH (x:MsV):List Value:=[.int .i64 x.m.frm,.int .i64 x.m.dst,.int .i64 x.m.kind,x.v,x.u]
def lO (l:List MsV):List Value:=l.flatMap fH
theorem qN (l m:List MsV):lO (l++m)=lO l++lO m:=by simp [lO]
theorem AV (l:List MsV) (i j:Nat) (hi:i<l.length) (hj:j<5):(lO l)[i*5+j]? = (fH (l.getD i B1))[j]? := by
 induction l generalizing i with
 | nil=>simp at hi
 | cons s l ih =>
  cases i with
  | zero =>
   rw [show lO (s::l)=fH s++lO l from rfl,cy (by simp [fH];omega)];simp
  | succ i =>
   rw [show lO (s::l)=fH s++lO l from rfl,dH (by simp [fH];omega)];have:=ih i (by simpa using hi);rw [show (i+1)*5+j - (fH s).length=i*5+j by simp [fH];omega,this];simp
structure OwnMs (w:World) (A:List Nat) (base:Nat) (v:Value) (ms:List Msg):Prop where
 ex:∃ps:List MsV,ps.map MsV.m=ms/\w.ownsRow base 51 5 v ms.length (lO ps)/\∀x∈ps,IsMsg w (A++v.ownBlock.toList) x.m x.v x.u
theorem IsMsg.one {w:World} {A:List Nat} {m:Msg} {v u:Value} (h:IsMsg w A m v u):v.oneCell'=true/\u.oneCell'=true:=by
 obtain ⟨⟨ao,c,rfl,_⟩,h2⟩:=h;refine ⟨rfl,?_⟩;rcases h2 with ⟨rfl,_⟩ | ⟨g,c,cur,rfl,_⟩<;>rfl
theorem OwnMs.nil (w:World) (A:List Nat) (base:Nat):OwnMs w A base (.slice none 0 0) []:=⟨⟨[],rfl,World.ownsRow_nil _ _ _ _,λx hx=>by cases hx⟩⟩
theorem OwnMs.below {w w':World} {A:List Nat} {base:Nat} {v:Value} {ms:List Msg} (h:OwnMs w A base v ms) (hb:Below w.heap.size w w'):OwnMs w' A base v ms:=by
 obtain ⟨ps,h1,h2,h3⟩:=h;exact ⟨ps,h1,fe h2 hb,λx hx=>(h3 x hx).below hb⟩
theorem OwnMs.mono {w:World} {A:List Nat} {base base':Nat} {v:Value} {ms:List Msg} (h:OwnMs w A base v ms) (hb:base'<=base):OwnMs w A base' v ms:=by
 obtain ⟨ps,h1,h2,h3⟩:=h;exact ⟨ps,h1,dQ h2 hb,h3⟩
theorem OwnMs.lt {w:World} {A:List Nat} {base:Nat} {v:Value} {ms:List Msg} (h:OwnMs w A base v ms):∀k∈v.ownBlock.toList,base<=k/\k<w.heap.size:=by
 obtain ⟨ps,h1,h2,h3⟩:=h;intro k hk;exact World.ownsRow.lt h2 k (by simpa using hk)
theorem OwnMs.shape {w:World} {A:List Nat} {base:Nat} {v:Value} {ms:List Msg} (h:OwnMs w A base v ms):∃ao c,v = .slice ao ms.length c/\ms.length<=c/\c<=9223372036854775807:=by
 obtain ⟨ps,h1,h2,h3⟩:=h;exact dw h2
theorem fY {w:World} {ops:Array Oper} {rest:List Oper} {o:Oper} {a:Act} {Q:Exit->Act->World->Prop} {A:List Nat} (hgd:o.guard=none) (s x:Operand)
  (ho:o.op = .call { callee:=.builtin .append,args:=#[s,x],argTypes:=#[35,35]})
  (base:Nat) (vs:Value) (ms:List Msg) (hs:a.eval s=vs) (hown:OwnMs w A base vs ms)
  (H:Nat) (m:Msg) (v u:Value) (hx:a.eval x = .slice (some ⟨H,0,none⟩) 1 1) (hcell:w.heap[H]? = some (.cells #[.int .i64 m.frm,.int .i64 m.dst,.int .i64 m.kind,v,u] 51 (0,0))) (hel:IsMsg w (A++vs.ownBlock.toList) m v u)
  (hbytes:ms.length+1<=100000) (hbase:base<=w.heap.size)
  (h:∀v' w',OwnMs w' A base v' (ms++[m])->Only vs.ownBlock.toList w w'->wpList Try.prog ops Q rest (a.put o.dst v') w'):wpList Try.prog ops Q (o::rest) a w:=by
 obtain ⟨i0,hi0,hz0,hz1,hz2⟩:=info_parts tK;obtain ⟨ps,h1,h2,h3⟩:=hown;have hone:∀y∈fH ⟨m,v,u⟩,y.oneCell'=true:=by
  intro y hy;simp only [fH,bG,iZ,or_false] at hy;rcases hy with rfl | rfl | rfl | rfl | rfl
  ·rfl
  ·rfl
  ·rfl
  ·exact hel.one.1
  ·exact hel.one.2
 refine wpList_append_lies w hgd s x 35 ho base 51 i0 _ 5 72 Try.underlying35 hi0 hz0 hz1 hz2 rfl (by decide) vs _ _ hs h2 ⟨H,0,none⟩ 1 1 (fH ⟨m,v,u⟩) hx rfl ?_ hone (by decide) (by unfold maxLen;omega) (by omega) hbase w.heap.size rfl ?_
 ·intro j y hj;rw [Addr.add_lit,dg,af hcell,<-hj];simp [fH]
 ·intro g cap w' g1 g2 g3 _;have hon:=jm g2;have hsub:∀b∈vs.ownBlock.toList,b∈A++vs.ownBlock.toList:=λb hb=>aG _ hb;have hext:Ext (A++vs.ownBlock.toList) (A++(Value.slice (some ⟨g,0,none⟩) (ms.length+1) cap).ownBlock.toList) w:=λb hb=>by
   rcases av.1 hb with hb | hb
   ·exact .inl (aD _ hb)
   ·have hbg:b=g:=by simp [Value.ownBlock] at hb;exact hb
    rw [hbg];rcases g3 with g3 | g3
    ·exact .inl (aG _ (by simp [g3]))
    ·exact .inr (by omega)
  refine h _ w' ⟨ps++[⟨m,v,u⟩],by simp [h1],by rw [ay,qN];simpa [lO] using g1,λy hy=>?_⟩ hon;rcases av.1 hy with hy | hy
  ·exact (h3 y hy).step hon hsub hext
  ·obtain rfl:=aj.1 hy;exact hel.step hon hsub hext
section
variable {w w':World} {A A' X X':List Nat} {r d l:Nat} {s s':Rp} {k k':Dk}
theorem Nd.more (h:Nd w A X r d l s k) (hb:Below w.heap.size w w') {B:List Nat} (hB:∀b∈B,w.heap.size<=b/\b<w'.heap.size):Nd w' (A++B) X r d l s k:=by
 obtain ⟨D,L,R,vl,gv,gn,gm,gh,h,hX⟩:=h;have ho:=Only.ofBelow hb [];have he:Ext A (A++B) w:=λb hb=>by
  rcases av.1 hb with hb | hb
  ·exact .inl hb
  ·exact .inr (hB b hb).1
 have h0:∀b∈([]:List Nat),b∈A:=λb hb=>by cases hb
 refine ⟨D,L,R,vl,gv,gn,gm,gh,⟨⟨h.wd.wl.keep ho (by simp) h0 he,h.wd.dk.below hb,h.wd.dis,λb hb=>aD _ (h.wd.dA b hb),λb hb=>aD _ (h.wd.lA b hb),λb hb2=>?_⟩,ho.keeps h.cell (by simp),h.log.step ho h0 he,ho.keeps h.votes (by simp),ho.keeps h.next (by simp),ho.keeps h.mat (by simp),ho.keeps h.heard (by simp),h.nm,h.rR,h.vR,h.nR,h.mR,h.hR,h.dRD,h.dRL,λb hb=>aD _ (h.rA b hb)⟩,hX⟩;rcases av.1 hb2 with h1 | h1
 ·exact aH (h.wd.alt b h1) hb.size
 ·exact (hB b h1).2
theorem ji (s:Rp) (f:Nat->Msg) (i:Nat):((List.range (i+1)).filter λj=>j != s.own).map f=(((List.range i).filter λj=>j != s.own).map f)++(if i=s.own then [] else [f i]):=by
 rw [cE,cC,bW];by_cases h:i=s.own
 ·simp [h]
 ·simp [h]
set_option maxHeartbeats 2000000 in
theorem gw (h:Nd w A X r d l s k) (hn:s.n<=5) (hw:Wf s k) (hnx:∀i,i<s.n->s.next.getD i 0<=s.log.length):Calls Try.prog 30 #[.pointer (some ⟨r,0,none⟩),.func (.func 31) #[.pointer (some ⟨r,0,none⟩)] #[]] w λe w'=>∃v,e = .returned v/\OwnMs w' A w.heap.size v (dc s (cw s))/\Below w.heap.size w w':=by
 have HF:Hid (∀W B,Below w.heap.size w W->(∀b∈B,w.heap.size<=b/\b<W.heap.size)->∀i,i<s.n->i≠s.own->Calls Try.prog 31 #[.pointer (some ⟨r,0,none⟩),.int .i64 (i:Int)] W λe w'=>∃v u,e = .returned (eA (cw s i) v u)/\IsMsg w' (A++B) (cw s i) v u/\Below W.heap.size W w'):=ab (λW B hb hB i hi hne=>kL (h.more hb hB) hw i hi (hnx i hi));obtain ⟨vl,gv,gn,gm,gh,hcell⟩:=h.cells;have hc0:w.cell? ⟨r,0,none⟩=some (.int .i64 (s.own:Int)):=by rw [af hcell];rfl
 have hc1:w.cell? ⟨r,1,none⟩=some (.int .i64 (s.n:Int)):=by rw [af hcell];rfl
 have HWA:=ab h.alt;have HST:=ab (ji s (cw s));have HALL:Hid (dc s (cw s)=((List.range s.n).filter λj=>j != s.own).map (cw s)):=ab rfl;have HLE:Hid (∀i,(((List.range i).filter λj=>j != s.own).map (cw s)).length<=i):=ab (λi=>by
  rw [aQ];exact aF (cR _ _) (by simp))
 have H0:Hid (((List.range 0).filter λj=>j != s.own).map (cw s)=[]):=ab (by simp);clear h hcell hw hnx;generalize hcc:(λi=>((List.range i).filter λj=>j != s.own).map (cw s))=cc at *;have HCC:Hid (∀i,((List.range i).filter λj=>j != s.own).map (cw s)=cc i):=ab (λi=>by rw [<-hcc]);clear hcc;simp only [HCC.out] at HST HALL HLE H0;clear HCC;generalize hff:cw s=ff at *;clear hff;generalize s.n=n at *;generalize s.own=ow at *;go_enter Try.func30,Try.ntmps30
 go_wp2_with fail
 go_loopw [11,5] (λi v wr=>∃j:Nat,j<=n/\i = .int .i64 (j:Int)/\OwnMs wr A w.heap.size v (cc j)/\Below w.heap.size w wr) (λi _ _=>n - (intOf i).toNat)
 case atStart=>exact ⟨0,aA _,rfl,by rw [H0.out];exact OwnMs.nil _ _ _,aB _ _⟩
 case round =>
  obtain ⟨j,hj,rfl,ho,hb⟩:=hrel;have HO:=ab ho;have HB:=ab hb;have hk0:=cell_later hb hc0;clear ho hb;obtain ⟨ao,c,rfl,_,_⟩:=HO.out.shape;have q6:IntKind.i64.wrap ((j:Int)+1)=(j:Int)+1:=IntWalk.i64_in _ (by omega);have HSJ:=ab (HST.out j);have HLJ:=ab (HLE.out j);by_cases hlt:j<n
  ·have q5:(j:Int)<(n:Int):=by omega
   by_cases hjo:j=ow
   ·rw [ax hjo,cF] at HSJ;have g1:((j:Int) != (ow:Int))=false:=by simp [hjo]
    clear hlt hjo;go_wp2_with fail
    go_roundw
    case rel=>exact ⟨j+1,by omega,rfl,by rw [HSJ.out];exact HO.out,HB.out⟩
    case measure=>simp [intOf];omega
   ·rw [aw hjo] at HSJ;have g1:((j:Int) != (ow:Int))=true:=(by rw [qq];omega)
    have HC:=ab (HF.out wr _ HB.out HO.out.lt j hlt hjo);clear hlt hjo;go_wp2_with fail
    refine HC.out.mono ?_;rintro e w2 ⟨v,u,rfl,hm2,hb2⟩;have hO2:=HO.out.below hb2;have HB2:=ab (HB.out.trans (hb2.mono HB.out.size));have ho1:=hm2.one;unfold eA;have hbB:Below w2.heap.size w2 (w2.alloc (.cells #[.int .i64 (ff j).frm,.int .i64 (ff j).dst,.int .i64 (ff j).kind,v,u] 51)):=(aB _ _).alloc (ah _) _;have HM3:=ab (hm2.below hbB);have HO3:=ab (hO2.below hbB);have HB3:=ab (HB2.out.alloc HB2.out.size (.cells #[.int .i64 (ff j).frm,.int .i64 (ff j).dst,.int .i64 (ff j).kind,v,u] 51));have HX3:=ab (aJ w2 (.cells #[.int .i64 (ff j).frm,.int .i64 (ff j).dst,.int .i64 (ff j).kind,v,u] 51));clear hm2 hb2 hO2 hbB;go_wp2_with (at_builtin;refine fY rfl (.tmp 20) (.tmp 24) rfl w.heap.size (.slice ao (cc j).length c) (cc j) rfl HO3.out w2.heap.size (ff j) v u rfl HX3.out HM3.out (by have:=HLJ.out;omega) HB3.out.size ?_)
    intro v4 w4 ho4 hon4;have HO4:=ab ho4;have HB4:=ab (HB3.out.trans (hon4.below HB3.out.size (λb hb=>(HO3.out.lt b hb).1)));clear ho4 hon4;go_wp2_with fail
    case roundEnd=>exact ⟨⟨j+1,by omega,rfl,by rw [HSJ.out];exact HO4.out,HB4.out⟩,by simp [intOf];omega⟩
  ·obtain rfl:j=n:=by omega
   go_wp2_with fail
   go_ret
   rw [HALL.out];exact ⟨_,rfl,HO.out,HB.out⟩
set_option maxHeartbeats 2000000 in
theorem li (h:Nd w A X r d l s k) (hn:s.n<=5) (hl:s.log.length<=1000000) (p:Nat) (hp:w.cell? ⟨p,0,none⟩=some (.pointer (some ⟨r,0,none⟩))):Calls Try.prog 30 #[.pointer (some ⟨r,0,none⟩),.func (.func 43) #[] #[.pointer (some ⟨p,0,none⟩)]] w λe w'=>∃v,e = .returned v/\OwnMs w' A w.heap.size v (dc s (bf s 5))/\Below w.heap.size w w':=by
 have HF:Hid (∀W B,Below w.heap.size w W->(∀b∈B,w.heap.size<=b/\b<W.heap.size)->∀i,i<s.n->i≠s.own->Calls Try.prog 43 #[.int .i64 (i:Int),.pointer (some ⟨p,0,none⟩)] W λe w'=>∃v u,e = .returned (eA (bf s 5 i) v u)/\IsMsg w' (A++B) (bf s 5 i) v u/\Below W.heap.size W w'):=ab (λW B hb hB i hi hne=>vm (h.more hb hB) hl p i (cell_later hb hp));obtain ⟨vl,gv,gn,gm,gh,hcell⟩:=h.cells;have hc0:w.cell? ⟨r,0,none⟩=some (.int .i64 (s.own:Int)):=by rw [af hcell];rfl
 have hc1:w.cell? ⟨r,1,none⟩=some (.int .i64 (s.n:Int)):=by rw [af hcell];rfl
 have HWA:=ab h.alt;have HST:=ab (ji s (bf s 5));have HALL:Hid (dc s (bf s 5)=((List.range s.n).filter λj=>j != s.own).map (bf s 5)):=ab rfl;have HLE:Hid (∀i,(((List.range i).filter λj=>j != s.own).map (bf s 5)).length<=i):=ab (λi=>by
  rw [aQ];exact aF (cR _ _) (by simp))
 have H0:Hid (((List.range 0).filter λj=>j != s.own).map (bf s 5)=[]):=ab (by simp);clear h hcell hl hp;generalize hcc:(λi=>((List.range i).filter λj=>j != s.own).map (bf s 5))=cc at *;have HCC:Hid (∀i,((List.range i).filter λj=>j != s.own).map (bf s 5)=cc i):=ab (λi=>by rw [<-hcc]);clear hcc;simp only [HCC.out] at HST HALL HLE H0;clear HCC;generalize hff:bf s 5=ff at *;clear hff;generalize s.n=n at *;generalize s.own=ow at *;go_enter Try.func30,Try.ntmps30
 go_wp2_with fail
 go_loopw [11,5] (λi v wr=>∃j:Nat,j<=n/\i = .int .i64 (j:Int)/\OwnMs wr A w.heap.size v (cc j)/\Below w.heap.size w wr) (λi _ _=>n - (intOf i).toNat)
 case atStart=>exact ⟨0,aA _,rfl,by rw [H0.out];exact OwnMs.nil _ _ _,aB _ _⟩
 case round =>
  obtain ⟨j,hj,rfl,ho,hb⟩:=hrel;have HO:=ab ho;have HB:=ab hb;have hk0:=cell_later hb hc0;clear ho hb;obtain ⟨ao,c,rfl,_,_⟩:=HO.out.shape;have q6:IntKind.i64.wrap ((j:Int)+1)=(j:Int)+1:=IntWalk.i64_in _ (by omega);have HSJ:=ab (HST.out j);have HLJ:=ab (HLE.out j);by_cases hlt:j<n
  ·have q5:(j:Int)<(n:Int):=by omega
   by_cases hjo:j=ow
   ·rw [ax hjo,cF] at HSJ;have g1:((j:Int) != (ow:Int))=false:=by simp [hjo]
    clear hlt hjo;go_wp2_with fail
    go_roundw
    case rel=>exact ⟨j+1,by omega,rfl,by rw [HSJ.out];exact HO.out,HB.out⟩
    case measure=>simp [intOf];omega
   ·rw [aw hjo] at HSJ;have g1:((j:Int) != (ow:Int))=true:=(by rw [qq];omega)
    have HC:=ab (HF.out wr _ HB.out HO.out.lt j hlt hjo);clear hlt hjo;go_wp2_with fail
    refine HC.out.mono ?_;rintro e w2 ⟨v,u,rfl,hm2,hb2⟩;have hO2:=HO.out.below hb2;have HB2:=ab (HB.out.trans (hb2.mono HB.out.size));have ho1:=hm2.one;unfold eA;have hbB:Below w2.heap.size w2 (w2.alloc (.cells #[.int .i64 (ff j).frm,.int .i64 (ff j).dst,.int .i64 (ff j).kind,v,u] 51)):=(aB _ _).alloc (ah _) _;have HM3:=ab (hm2.below hbB);have HO3:=ab (hO2.below hbB);have HB3:=ab (HB2.out.alloc HB2.out.size (.cells #[.int .i64 (ff j).frm,.int .i64 (ff j).dst,.int .i64 (ff j).kind,v,u] 51));have HX3:=ab (aJ w2 (.cells #[.int .i64 (ff j).frm,.int .i64 (ff j).dst,.int .i64 (ff j).kind,v,u] 51));clear hm2 hb2 hO2 hbB;go_wp2_with (at_builtin;refine fY rfl (.tmp 20) (.tmp 24) rfl w.heap.size (.slice ao (cc j).length c) (cc j) rfl HO3.out w2.heap.size (ff j) v u rfl HX3.out HM3.out (by have:=HLJ.out;omega) HB3.out.size ?_)
    intro v4 w4 ho4 hon4;have HO4:=ab ho4;have HB4:=ab (HB3.out.trans (hon4.below HB3.out.size (λb hb=>(HO3.out.lt b hb).1)));clear ho4 hon4;go_wp2_with fail
    case roundEnd=>exact ⟨⟨j+1,by omega,rfl,by rw [HSJ.out];exact HO4.out,HB4.out⟩,by simp [intOf];omega⟩
  ·obtain rfl:j=n:=by omega
   go_wp2_with fail
   go_ret
   rw [HALL.out];exact ⟨_,rfl,HO.out,HB.out⟩
set_option maxHeartbeats 2000000 in
theorem ou (h:Nd w A X r d l s k) (hn:s.n<=5) (hl:s.log.length<=1000000) (p:Nat) (hp:w.cell? ⟨p,0,none⟩=some (.pointer (some ⟨r,0,none⟩))):Calls Try.prog 30 #[.pointer (some ⟨r,0,none⟩),.func (.func 65) #[] #[.pointer (some ⟨p,0,none⟩)]] w λe w'=>∃v,e = .returned v/\OwnMs w' A w.heap.size v (dc s (bf s 1))/\Below w.heap.size w w':=by
 have HF:Hid (∀W B,Below w.heap.size w W->(∀b∈B,w.heap.size<=b/\b<W.heap.size)->∀i,i<s.n->i≠s.own->Calls Try.prog 65 #[.int .i64 (i:Int),.pointer (some ⟨p,0,none⟩)] W λe w'=>∃v u,e = .returned (eA (bf s 1 i) v u)/\IsMsg w' (A++B) (bf s 1 i) v u/\Below W.heap.size W w'):=ab (λW B hb hB i hi hne=>tf (h.more hb hB) hl p i (cell_later hb hp));obtain ⟨vl,gv,gn,gm,gh,hcell⟩:=h.cells;have hc0:w.cell? ⟨r,0,none⟩=some (.int .i64 (s.own:Int)):=by rw [af hcell];rfl
 have hc1:w.cell? ⟨r,1,none⟩=some (.int .i64 (s.n:Int)):=by rw [af hcell];rfl
 have HWA:=ab h.alt;have HST:=ab (ji s (bf s 1));have HALL:Hid (dc s (bf s 1)=((List.range s.n).filter λj=>j != s.own).map (bf s 1)):=ab rfl;have HLE:Hid (∀i,(((List.range i).filter λj=>j != s.own).map (bf s 1)).length<=i):=ab (λi=>by
  rw [aQ];exact aF (cR _ _) (by simp))
 have H0:Hid (((List.range 0).filter λj=>j != s.own).map (bf s 1)=[]):=ab (by simp);clear h hcell hl hp;generalize hcc:(λi=>((List.range i).filter λj=>j != s.own).map (bf s 1))=cc at *;have HCC:Hid (∀i,((List.range i).filter λj=>j != s.own).map (bf s 1)=cc i):=ab (λi=>by rw [<-hcc]);clear hcc;simp only [HCC.out] at HST HALL HLE H0;clear HCC;generalize hff:bf s 1=ff at *;clear hff;generalize s.n=n at *;generalize s.own=ow at *;go_enter Try.func30,Try.ntmps30
 go_wp2_with fail
 go_loopw [11,5] (λi v wr=>∃j:Nat,j<=n/\i = .int .i64 (j:Int)/\OwnMs wr A w.heap.size v (cc j)/\Below w.heap.size w wr) (λi _ _=>n - (intOf i).toNat)
 case atStart=>exact ⟨0,aA _,rfl,by rw [H0.out];exact OwnMs.nil _ _ _,aB _ _⟩
 case round =>
  obtain ⟨j,hj,rfl,ho,hb⟩:=hrel;have HO:=ab ho;have HB:=ab hb;have hk0:=cell_later hb hc0;clear ho hb;obtain ⟨ao,c,rfl,_,_⟩:=HO.out.shape;have q6:IntKind.i64.wrap ((j:Int)+1)=(j:Int)+1:=IntWalk.i64_in _ (by omega);have HSJ:=ab (HST.out j);have HLJ:=ab (HLE.out j);by_cases hlt:j<n
  ·have q5:(j:Int)<(n:Int):=by omega
   by_cases hjo:j=ow
   ·rw [ax hjo,cF] at HSJ;have g1:((j:Int) != (ow:Int))=false:=by simp [hjo]
    clear hlt hjo;go_wp2_with fail
    go_roundw
    case rel=>exact ⟨j+1,by omega,rfl,by rw [HSJ.out];exact HO.out,HB.out⟩
    case measure=>simp [intOf];omega
   ·rw [aw hjo] at HSJ;have g1:((j:Int) != (ow:Int))=true:=(by rw [qq];omega)
    have HC:=ab (HF.out wr _ HB.out HO.out.lt j hlt hjo);clear hlt hjo;go_wp2_with fail
    refine HC.out.mono ?_;rintro e w2 ⟨v,u,rfl,hm2,hb2⟩;have hO2:=HO.out.below hb2;have HB2:=ab (HB.out.trans (hb2.mono HB.out.size));have ho1:=hm2.one;unfold eA;have hbB:Below w2.heap.size w2 (w2.alloc (.cells #[.int .i64 (ff j).frm,.int .i64 (ff j).dst,.int .i64 (ff j).kind,v,u] 51)):=(aB _ _).alloc (ah _) _;have HM3:=ab (hm2.below hbB);have HO3:=ab (hO2.below hbB);have HB3:=ab (HB2.out.alloc HB2.out.size (.cells #[.int .i64 (ff j).frm,.int .i64 (ff j).dst,.int .i64 (ff j).kind,v,u] 51));have HX3:=ab (aJ w2 (.cells #[.int .i64 (ff j).frm,.int .i64 (ff j).dst,.int .i64 (ff j).kind,v,u] 51));clear hm2 hb2 hO2 hbB;go_wp2_with (at_builtin;refine fY rfl (.tmp 20) (.tmp 24) rfl w.heap.size (.slice ao (cc j).length c) (cc j) rfl HO3.out w2.heap.size (ff j) v u rfl HX3.out HM3.out (by have:=HLJ.out;omega) HB3.out.size ?_)
    intro v4 w4 ho4 hon4;have HO4:=ab ho4;have HB4:=ab (HB3.out.trans (hon4.below HB3.out.size (λb hb=>(HO3.out.lt b hb).1)));clear ho4 hon4;go_wp2_with fail
    case roundEnd=>exact ⟨⟨j+1,by omega,rfl,by rw [HSJ.out];exact HO4.out,HB4.out⟩,by simp [intOf];omega⟩
  ·obtain rfl:j=n:=by omega
   go_wp2_with fail
   go_ret
   rw [HALL.out];exact ⟨_,rfl,HO.out,HB.out⟩
end
def nG (s:Rp) (j:Nat):Rp:={ s with leads:=true,next:=List.replicate j s.log.length++s.next.drop j,mat:=List.replicate j 0++s.mat.drop j }
theorem uu (l:List Nat) (x j:Nat) (h:j<l.length):(List.replicate j x++l.drop j).set j x=List.replicate (j+1) x++l.drop (j+1):=by
 rw [List.set_append_right _ _ (by simp),fF,pu,sG h,ka,List.replicate_succ',bH];rfl
theorem zt (s:Rp) (j:Nat) (h1:j<s.next.length) (h2:j<s.mat.length):{ nG s j with next:=(nG s j).next.set j s.log.length,mat:=(nG s j).mat.set j 0 }=nG s (j+1):=by
 unfold nG;simp only;rw [uu _ _ _ h1,uu _ _ _ h2]
theorem Bh (s:Rp) (h1:s.next.length=s.n) (h2:s.mat.length=s.n):nG s s.n={ s with leads:=true,next:=List.replicate s.n s.log.length,mat:=List.replicate s.n 0 }:=by
 unfold nG;rw [kT (by omega),kT (by omega),cF,cF]
structure MsP (w w':World) (A X:List Nat) (r d l:Nat) (e:Ending) (p:List Msg×Rp×Dk):Prop where
 ex:∃v A' X',e = .returned v/\Nd w' A' X' r d l p.2.1 p.2.2/\OwnMs w' A' w.heap.size v p.1/\Mv A A' X X' w w'/\∀b,v.ownBlock=some b->b∉A'
section
variable {w w':World} {A A' X X':List Nat} {r d l:Nat} {s s':Rp} {k k':Dk}
theorem MsP.none (h:NdP w w' A X r d l s' k'):MsP w w' A X r d l (.returned (.slice none 0 0)) ([],s',k'):=by
 obtain ⟨A',X',h,m⟩:=h;exact ⟨_,A',X',rfl,h,OwnMs.nil _ _ _,m,(λb hb=>by cases hb)⟩
theorem MsP.trans {w'':World} {e:Ending} {p:List Msg×Rp×Dk} (m:Mv A A' X X' w w') (h:MsP w' w'' A' X' r d l e p):MsP w w'' A X r d l e p:=by
 obtain ⟨v,A2,X2,he,h,ho,m2,hv⟩:=h;exact ⟨v,A2,X2,he,h,ho.mono m.mv.only.size,m.trans m2,hv⟩
theorem gf {v:Value} {ms:List Msg} (h:Nd w A X r d l s k) (ho:OwnMs w' A w.heap.size v ms) (hb:Below w.heap.size w w'):MsP w w' A X r d l (.returned v) (ms,s,k) :=
 ⟨v,A,X,rfl,h.below hb,ho,Mv.below hb,λb hb2 hm=>by have:=(ho.lt b (by simp [hb2])).1;have:=h.alt b hm;omega⟩
theorem Bt (w:World) (A:List Nat):Imm w A (.slice none 0 0) []:=⟨none,0,rfl,fS w,ah _,(λp hp=>by cases hp)⟩
set_option maxHeartbeats 2000000 in
theorem rD (h:Nd w A X r d l s k) (hw:Wf s k):Calls Try.prog 53 #[.pointer (some ⟨r,0,none⟩)] w λe w'=>MsP w w' A X r d l e (fR s k):=by
 have HW:=ab hw;have HE:Hid (fR s k=(let s1:Rp:={ s with leads:=true,next:=List.replicate s.n s.log.length,mat:=List.replicate s.n 0 }
  let p:=fy s1 k ⟨s1.term,[]⟩
  if p.1 then (let s2:=(bS p.2.1).2;(dc s2 (cw s2),s2,p.2.2)) else ([],p.2))):=ab rfl
 have HALL:=ab (Bh s hw.nl hw.ml);have HST:=ab (λj (hj:j<s.n)=>zt s j (by rw [hw.nl];exact hj) (by rw [hw.ml];exact hj));have HLL:Hid (∀j,(nG s j).log=s.log/\(nG s j).n=s.n):=ab (λj=>⟨rfl,rfl⟩);have HNL:Hid (∀j,j<=s.n->(nG s j).next.length=s.n/\(nG s j).mat.length=s.n):=ab (λj hj=>by
  unfold nG;simp [hw.nl,hw.ml];omega)
 obtain ⟨vl,gv,gn,gm,gh,hcell⟩:=h.cells;have hz11:=aO hcell 11;have hc11:w.cell? ⟨r,11,none⟩=some (.bool s.leads):=by rw [af hcell];rfl
 have hc1:w.cell? ⟨r,1,none⟩=some (.int .i64 (s.n:Int)):=by rw [af hcell];rfl
 have H0:Hid (NdP w (w.setCell ⟨r,11,none⟩ (.bool true)) A X r d l (nG s 0) k):=ab (by
  refine Nd.scal h ((Only.refl _ _).setCell (by simp) _) ?_ rfl rfl rfl ?_ ?_ rfl
  ·intro vl gv gn gm gh hc;rw [aZ hc];rfl
  ·simp [nG]
  ·simp [nG])
 have hc1':(w.setCell ⟨r,11,none⟩ (.bool true)).cell? ⟨r,1,none⟩=some (.int .i64 (s.n:Int)):=by rw [af (aZ hcell 11 _)];rfl
 have HW1:=ab (mX hw);have hn5:=hw.n5;have hlogb:=hw.logb;clear h hw hcell hc1;go_enter Try.func53,Try.ntmps53
 go_wp2_with fail
 go_loopw [11] (λi wr=>∃j:Nat,j<=s.n/\i = .int .i64 (j:Int)/\NdP w wr A X r d l (nG s j) k) (λi _=>s.n - (intOf i).toNat)
 case atStart=>exact ⟨0,aA _,rfl,H0.out⟩
 case round =>
  obtain ⟨j,hj,rfl,hn⟩:=hrel;clear hc1' hc11 hz11 H0;by_cases hlt:j<s.n
  ·obtain ⟨A1,X1,h1,m1⟩:=hn;obtain ⟨al,cl,hk8,hl1,hl2⟩:=h1.loglen;obtain ⟨D,L,R,vl,gv,gn,gm,gh,h2,hX2⟩:=h1;rw [(HLL.out j).1] at hk8 hl1;have hk13:wr.cell? ⟨r,13,none⟩=some (.slice (some ⟨gn,0,none⟩) s.n s.n):=by rw [af h2.cell];rfl
   have hk14:wr.cell? ⟨r,14,none⟩=some (.slice (some ⟨gm,0,none⟩) s.n s.n):=by rw [af h2.cell];rfl
   obtain ⟨hnl,hml⟩:=HNL.out j hj;have hcn:wr.cell? ⟨gn,j,none⟩=some (.int .i64 ((nG s j).next.getD j 0:Int)):=by rw [af h2.next];exact gA _ _ (by rw [hnl];exact hlt)
   have hcm:wr.cell? ⟨gm,j,none⟩=some (.int .i64 ((nG s j).mat.getD j 0:Int)):=by rw [af h2.mat];exact gA _ _ (by rw [hml];exact hlt)
   have hzn:=aO h2.next j;have hzm:=aO h2.mat j;have hj3:(j:Int)<(s.n:Int):=by omega
   have hj4:IntKind.i64.wrap ((j:Int)+1)=(j:Int)+1:=IntWalk.i64_in _ (by omega);have HK1:Hid (∀w3,w3=(wr.setCell ⟨gn,j,none⟩ (.int .i64 (s.log.length:Int))).drew\/w3=((wr.setCell ⟨gn,j,none⟩ (.int .i64 (s.log.length:Int))).setCell ⟨gm,j,none⟩ (.int .i64 0)).drew->w3.cell? ⟨r,13,none⟩=some (.slice (some ⟨gn,0,none⟩) s.n s.n)/\w3.cell? ⟨r,14,none⟩=some (.slice (some ⟨gm,0,none⟩) s.n s.n)/\w3.cell? ⟨r,8,none⟩=some (.slice al s.log.length cl)):=ab (λw3 e=>by
    have ho:Only [gn,gm] wr w3:=by
     rcases e with rfl | rfl
     ·exact ((Only.refl _ _).setCell (by simp) _).drewN 1
     ·exact (((Only.refl _ _).setCell (by simp) _).setCell (by simp) _).drewN 1
    have hne:r∉[gn,gm]:=by
     have e1:=b8 h2.cell h2.next (by decide);have e2:=b8 h2.cell h2.mat (by decide);simp [e1,e2]
    exact ⟨ho.cell hk13 hne,ho.cell hk14 hne,ho.cell hk8 hne⟩)
   have HR1:Hid (∀w3,w3=((wr.setCell ⟨gn,j,none⟩ (.int .i64 (s.log.length:Int))).setCell ⟨gm,j,none⟩ (.int .i64 0)).drew->NdP w w3 A X r d l (nG s (j+1)) k):=ab (λw3 e=>by
    have h3:=((h2.set_next j s.log.length).set_mat j 0).below (ap _ 1);have e2:=HST.out j hlt;rw [e];refine NdP.trans m1 (NdC.ndpR (vl:=vl) (gv:=gv) (gn:=gn) (gm:=gm) (gh:=gh) (s':=nG s (j+1)) ?_ hX2 (S:=[gn,gm]) ((((Only.refl _ _).setCell (by simp) _).setCell (by simp) _).drewN 1) ?_)
    ·rw [<-e2];exact h3
    ·intro b hb;simp at hb;rcases hb with rfl | rfl
     ·exact h2.nR
     ·exact h2.mR)
   have hcm2:(wr.setCell ⟨gn,j,none⟩ (.int .i64 (s.log.length:Int))).cell? ⟨gm,j,none⟩=some (.int .i64 ((nG s j).mat.getD j 0:Int)):=((Only.refl [gn] wr).setCell (p:=⟨gn,j,none⟩) (by simp) (.int .i64 (s.log.length:Int))).cell hcm (by simpa using h2.nm.symm);have hzm2:=aO (((Only.refl [gn] wr).setCell (p:=⟨gn,j,none⟩) (by simp) (.int .i64 (s.log.length:Int))).keeps h2.mat (by simpa using h2.nm.symm)) j;clear m1 h2 hX2 hlt hnl hml;generalize hsl:s.log.length=sl at *;generalize hsn:s.n=n at *;generalize (nG s j).next.getD j 0=x0 at *;generalize (nG s j).mat.getD j 0=y0 at *;go_upto_region 5 with (fail)
   refine wp_region_held_drew (S:=λw'=>w'.cell? ⟨r,13,none⟩=some (.slice (some ⟨gn,0,none⟩) n n)/\w'.cell? ⟨r,14,none⟩=some (.slice (some ⟨gm,0,none⟩) n n)/\w'.cell? ⟨r,8,none⟩=some (.slice al sl cl)) (by kernel_rfl) ⟨hk13,hk14,hk8⟩ (λam=>?_);refine az 0 ?_;refine az 1 ?_;refine az 2 ?_;refine az 3 ?_;refine az 4 ?_;refine az 5 ?_;refine az 6 ?_;refine az 7 ?_;refine az 8 ?_;refine az 9 ?_;refine az 10 ?_;refine az 11 ?_;refine az 12 ?_;refine az 13 ?_;refine az 14 ?_;refine az 15 ?_;refine cf 16 λK hK=>?_;go_simp
   refine hK.out _ _ (HK1.out _ (.inl rfl)) (λam=>?_);clear hK K;refine bu ?_;refine az 17 ?_;refine cf 18 λK hK=>?_;go_simp
   refine hK.out _ _ (HK1.out _ (.inr rfl)) (λam=>?_);clear hK K;refine bu ?_;refine fc ?_;clear am;go_wp2_with fail
   go_roundw
   case rel=>exact ⟨j+1,by omega,rfl,HR1.out _ rfl⟩
   case measure=>simp [intOf];omega
  ·have hjn:j=s.n:=by omega
   subst hjn;rw [HALL.out] at hn;obtain ⟨A1,X1,h1,m1⟩:=hn;have H1:=ab h1;have M1:=ab m1;have HP:=ab (uy h1 HW1.out ⟨s.term,[]⟩ (by simp) (.slice none 0 0) (Bt _ _));have HWP:=ab (mW HW1.out ⟨s.term,[]⟩ (by simp));have HSP:=ab (kY (s:={ s with leads:=true,next:=List.replicate s.n s.log.length,mat:=List.replicate s.n 0 }) (k:=k) ⟨s.term,[]⟩);obtain ⟨vl,gv,gn,gm,gh,hcell⟩:=h1.cells;have hc6:wr.cell? ⟨r,6,none⟩=some (.int .i64 s.term):=by rw [af hcell];rfl
   clear h1 m1 hcell hlt;unfold rZ at HP
   (try simp only at HE)
   generalize fy { s with leads:=true,next:=List.replicate s.n s.log.length,mat:=List.replicate s.n 0 } k ⟨s.term,[]⟩=p at *;obtain ⟨ok,s2,k2⟩:=p
   (try simp only at HE);(try simp only at HP);(try simp only at HWP);(try simp only at HSP)
   cases ok with
   | false =>
    rw [aw (by simp)] at HE;go_wp2_with fail
    refine HP.out.mono ?_;rintro e w2 ⟨rfl,hn2⟩;have HN2:=ab (hn2.trans M1.out);clear hn2;go_wp2_with fail
    go_ret
    rw [HE.out];exact MsP.none HN2.out
   | true =>
    rw [ax rfl] at HE;go_wp2_with fail
    refine HP.out.mono ?_;rintro e w2 ⟨rfl,A2,X2,h2,m2⟩;have H2:=ab h2;have M2:=ab (M1.out.trans m2);clear h2 m2;go_wp2_with fail
    refine (kx H2.out HWP.out).mono ?_;rintro e w3 ⟨rfl,A3,X3,h3,m3⟩;have H3:=ab h3;have M3:=ab (M2.out.trans m3);have HW3:=ab (fJ HWP.out);have HL3:Hid ((bS s2).2.leads=true):=ab (by
     obtain ⟨w0,d0,l0,e0⟩:=HSP.out;rw [ja,e0])
    clear h3 m3;generalize (bS s2).1=ob at *;generalize (bS s2).2=s3 at *;go_wp2_with fail
    refine (gw H3.out HW3.out.n5 HW3.out (λi _=>(HW3.out.lead HL3.out i).1)).mono ?_;rintro e w4 ⟨v4,rfl,ho4,hb4⟩;have HF:=ab (MsP.trans M3.out (gf H3.out ho4 hb4));clear ho4 hb4;go_wp2_with fail
    go_ret
    rw [HE.out];exact HF.out
end
theorem lY (l:List (Int×Int×Int)) (i c:Nat) (hi:i<l.length) (hc:c<3):(fg l)[i*3+c]? = (lP (l.getD i (0,0,0)))[c]? := by
 have key:∀(l:List (Int×Int×Int)) (i:Nat),i<l.length->(l.flatMap lP)[i*3+c]? = (lP (l.getD i (0,0,0)))[c]? := by
  intro l;induction l with
  | nil=>intro i hi;simp at hi
  | cons x l ih =>
   intro i hi;cases i with
   | zero =>
    rw [ue,cy (by simp [lP];omega)];simp
   | succ i =>
    rw [ue,dH (by simp [lP];omega)];have:=ih i (by simpa using hi);rw [show (i+1)*3+c - (lP x).length=i*3+c by simp [lP];omega,this];simp
 unfold fg;rw [eE];exact key l i hi
section
variable {w w':World} {A A' X X':List Nat} {r d l:Nat} {s s':Rp} {k k':Dk}
set_option maxHeartbeats 4000000 in
theorem Am (h:Nd w A X r d l s k) (hw:Wf s k) (hck:s.clock<=1000000):Calls Try.prog 41 #[.pointer (some ⟨r,0,none⟩)] w λe w'=>e = .returned (.bool (jQ s))/\Below w.heap.size w w':=by
 obtain ⟨al,cl,hc8,hl1,hl2⟩:=h.loglen;have hlb:=hw.logb;have HLT:=ab (λq=>fp (h.below (ap w q)) s.log.length (ah _) (by omega));obtain ⟨D,L,R,vl,gv,gn,gm,gh,h,hX⟩:=h;have hc0:w.cell? ⟨r,0,none⟩=some (.int .i64 (s.own:Int)):=by rw [af h.cell];rfl
 have hc16:w.cell? ⟨r,16,none⟩=some (.int .i64 (s.clock:Int)):=by rw [af h.cell];rfl
 have hc17:w.cell? ⟨r,17,none⟩=some (.slice (some ⟨gh,0,none⟩) s.n s.n):=by rw [af h.cell];rfl
 have hhl:=hw.hl;have HH:Hid (∀i,i<s.n->w.cell? ⟨gh,i*3,none⟩=some (.int .i64 (s.heard.getD i (0,0,0)).1)/\w.cell? ⟨gh,i*3+1,none⟩=some (.int .i64 (s.heard.getD i (0,0,0)).2.1)/\w.cell? ⟨gh,i*3+2,none⟩=some (.int .i64 (s.heard.getD i (0,0,0)).2.2)):=ab (λi hi=>⟨by
  rw [af h.heard];exact lY s.heard i 0 (by omega) (by omega),by
  rw [af h.heard];exact lY s.heard i 1 (by omega) (by omega),by
  rw [af h.heard];exact lY s.heard i 2 (by omega) (by omega)⟩)
 have HR:Hid (∀i,i<s.n->0<=(s.heard.getD i (0,0,0)).1/\(s.heard.getD i (0,0,0)).1<=(s.clock:Int)):=ab (λi hi=>by
  have e:s.heard.getD i (0,0,0)=s.heard[i]'(by omega):=by simp [List.getD,show i<s.heard.length by omega]
  rw [e];exact hw.hrd _ (dy _))
 have HYES:Hid ((∀i,i<s.n->better s i (s.heard.getD i (0,0,0))=false)->jQ s=true):=ab (λhh=>by
  unfold jQ;rw [fx];intro i hi;rw [hh i (by have:=cX.1 hi;omega)];rfl)
 have HNO1:Hid (∀i,i<s.n->better s i (s.heard.getD i (0,0,0))=true->jQ s=false):=ab (λi hi hb=>by
  unfold jQ;rw [List.all_eq_false];exact ⟨i,cX.2 (by omega),by rw [hb];simp⟩)
 have HBT:Hid (∀i x,better s i x=(!(x.1==0||decide (4<(s.clock:Int) - x.1))&&(decide (bT s.log s.log.length<x.2.2)||(x.2.2==bT s.log s.log.length&&(decide ((s.log.length:Int)<x.2.1)||(x.2.1==(s.log.length:Int)&&decide (i<s.own))))))):=ab (λi x=>rfl);have hn5:=hw.n5;clear h hX hw hhl;generalize jQ s=bm at *;generalize better s=bt at *;generalize bT s.log s.log.length=lt at *;generalize s.log.length=sl at *;generalize s.n=n at *;generalize s.own=ow at *;generalize s.clock=ck at *;generalize s.heard=hd at *;go_enter Try.func41,Try.ntmps41
 go_upto_region 1 with (fail)
 refine wp_region_held_drew (S:=λw'=>w'.cell? ⟨r,8,none⟩=some (.slice al sl cl)) (by kernel_rfl) hc8 (λam=>?_);refine az 0 ?_;refine az 1 ?_;refine az 2 ?_;refine az 3 ?_;refine az 4 ?_;refine az 5 ?_;refine az 6 ?_;refine az 7 ?_;refine az 8 ?_;refine az 9 ?_;refine az 10 ?_;refine cf 11 λK hK=>?_;go_simp
 refine (HLT.out _).mono ?_;rintro e wa ⟨rfl,rfl⟩;go_wp2_with fail
 refine hK.out _ _ am (λam=>?_);clear hK K;refine bu ?_;refine az 12 ?_;refine az 13 ?_;refine fc ?_;clear am;go_wp2_with fail
 go_loopw [24] (λi wr=>∃j:Nat,j<=n/\i = .int .i64 (j:Int)/\(∀i,i<j->bt i (hd.getD i (0,0,0))=false)/\Below w.heap.size w wr) (λi _=>n - (intOf i).toNat)
 case atStart=>exact ⟨0,aA _,rfl,(λi hi=>by omega),ap _ 1⟩
 case round =>
  obtain ⟨j,hj,rfl,hpr,hb⟩:=hrel;have HPR:=ab hpr;have HB:=ab hb;clear hpr hb;by_cases hlt2:j<n
  ·obtain ⟨hu0,hu1,hu2⟩:=HH.out j hlt2;obtain ⟨hr0,hr1⟩:=HR.out j hlt2;have HBE:=ab (HBT.out j (hd.getD j (0,0,0)));have HNO:=ab (HNO1.out j hlt2);generalize hx:hd.getD j (0,0,0)=x at *;obtain ⟨at_,mn,tm⟩:=x;simp only at hu0 hu1 hu2 hr0 hr1 HBE;have HBE:Hid (bt j (at_,mn,tm)=(!(at_==0||decide (4<(ck:Int) - at_))&&(decide (lt<tm)||(tm==lt&&(decide ((sl:Int)<mn)||(mn==(sl:Int)&&decide ((j:Int)<(ow:Int)))))))):=ab (by
    have e9:decide ((j:Int)<(ow:Int))=decide (j<ow):=decide_eq_decide.2 ⟨λh=>by omega,λh=>by omega⟩;rw [HBE.out,e9])
   have hu0:=cell_later HB.out hu0;have hu1:=cell_later HB.out hu1;have hu2:=cell_later HB.out hu2;have hbA:Below wr.heap.size wr (wr.alloc (.cells #[.int .i64 at_,.int .i64 mn,.int .i64 tm] 76)):=(aB _ _).alloc (ah _) _;have hy16:=cell_later hbA (cell_later HB.out hc16);have hy0:=cell_later hbA (cell_later HB.out hc0);have hz0:(wr.alloc (.cells #[.int .i64 at_,.int .i64 mn,.int .i64 tm] 76)).cell? ⟨wr.heap.size,0,none⟩=some (.int .i64 at_):=by rw [af (aJ _ _)];rfl
   have hz1:(wr.alloc (.cells #[.int .i64 at_,.int .i64 mn,.int .i64 tm] 76)).cell? ⟨wr.heap.size,1,none⟩=some (.int .i64 mn):=by rw [af (aJ _ _)];rfl
   have hz2:(wr.alloc (.cells #[.int .i64 at_,.int .i64 mn,.int .i64 tm] 76)).cell? ⟨wr.heap.size,2,none⟩=some (.int .i64 tm):=by rw [af (aJ _ _)];rfl
   have HB2:Hid (∀q,Below w.heap.size w ((wr.alloc (.cells #[.int .i64 at_,.int .i64 mn,.int .i64 tm] 76)).drewN q)):=ab (λq=>(HB.out.trans (hbA.mono HB.out.size)).trans ((ap _ q).mono (HB.out.trans (hbA.mono HB.out.size)).size));have q1:IntKind.i64.wrap ((ck:Int) - at_)=(ck:Int) - at_:=IntWalk.i64_in _ (by omega);have q2:IntKind.i64.wrap ((j:Int)+1)=(j:Int)+1:=IntWalk.i64_in _ (by omega);have q3:(j:Int)<(n:Int):=by omega
   have HX:=ab hx;clear hr0 hr1 hbA hc0 hc16 hc17 hlt2 hx;cases a1:at_==0 with
   | true =>
    go_upto_region 5 with (fail)
    generalize wr.alloc (.cells #[.int .i64 at_,.int .i64 mn,.int .i64 tm] 76)=W2 at *;go_quiet (fail)
    go_wp2_with fail
    go_roundw
    case rel=>exact ⟨j+1,by omega,rfl,λi hi=>(by
     by_cases hij:i=j
     ·rw [hij,HX.out,HBE.out];simp [*]
     ·exact HPR.out i (by omega)),HB2.out _⟩
    case measure=>simp [intOf];omega
   | false =>
    cases a2:decide (4<(ck:Int) - at_) with
    | true =>
     go_upto_region 5 with (fail)
     generalize wr.alloc (.cells #[.int .i64 at_,.int .i64 mn,.int .i64 tm] 76)=W2 at *;go_quiet (fail)
     go_wp2_with fail
     go_roundw
     case rel=>exact ⟨j+1,by omega,rfl,λi hi=>(by
      by_cases hij:i=j
      ·rw [hij,HX.out,HBE.out];simp [*]
      ·exact HPR.out i (by omega)),HB2.out _⟩
     case measure=>simp [intOf];omega
    | false =>
     cases t1:decide (lt<tm) with
     | true =>
      go_upto_region 5 with (fail)
      generalize wr.alloc (.cells #[.int .i64 at_,.int .i64 mn,.int .i64 tm] 76)=W2 at *;go_quiet (fail)
      go_wp2_with fail
      go_ret
      exact ⟨by rw [HNO.out (by rw [HBE.out];simp [*])];rfl,HB2.out _⟩
     | false =>
      cases t2:tm==lt with
      | true =>
       cases m1:decide ((sl:Int)<mn) with
       | true =>
        go_upto_region 5 with (fail)
        generalize wr.alloc (.cells #[.int .i64 at_,.int .i64 mn,.int .i64 tm] 76)=W2 at *;go_quiet (fail)
        go_wp2_with fail
        go_ret
        exact ⟨by rw [HNO.out (by rw [HBE.out];simp [*])];rfl,HB2.out _⟩
       | false =>
        cases m2:mn==(sl:Int) with
        | true =>
         cases o1:decide (j<ow) with
         | true =>
          go_upto_region 5 with (fail)
          generalize wr.alloc (.cells #[.int .i64 at_,.int .i64 mn,.int .i64 tm] 76)=W2 at *;go_quiet (fail)
          go_wp2_with fail
          go_ret
          exact ⟨by rw [HNO.out (by rw [HBE.out];simp [*])];rfl,HB2.out _⟩
         | false =>
          go_upto_region 5 with (fail)
          generalize wr.alloc (.cells #[.int .i64 at_,.int .i64 mn,.int .i64 tm] 76)=W2 at *;go_quiet (fail)
          go_wp2_with fail
          go_roundw
          case rel=>exact ⟨j+1,by omega,rfl,λi hi=>(by
           by_cases hij:i=j
           ·rw [hij,HX.out,HBE.out];simp [*]
           ·exact HPR.out i (by omega)),HB2.out _⟩
          case measure=>simp [intOf];omega
        | false =>
         go_upto_region 5 with (fail)
         generalize wr.alloc (.cells #[.int .i64 at_,.int .i64 mn,.int .i64 tm] 76)=W2 at *;go_quiet (fail)
         go_wp2_with fail
         go_roundw
         case rel=>exact ⟨j+1,by omega,rfl,λi hi=>(by
          by_cases hij:i=j
          ·rw [hij,HX.out,HBE.out];simp [*]
          ·exact HPR.out i (by omega)),HB2.out _⟩
         case measure=>simp [intOf];omega
      | false =>
       go_upto_region 5 with (fail)
       generalize wr.alloc (.cells #[.int .i64 at_,.int .i64 mn,.int .i64 tm] 76)=W2 at *;go_quiet (fail)
       go_wp2_with fail
       go_roundw
       case rel=>exact ⟨j+1,by omega,rfl,λi hi=>(by
        by_cases hij:i=j
        ·rw [hij,HX.out,HBE.out];simp [*]
        ·exact HPR.out i (by omega)),HB2.out _⟩
       case measure=>simp [intOf];omega
  ·obtain rfl:j=n:=by omega
   go_wp2_with fail
   go_ret
   exact ⟨by rw [HYES.out HPR.out];rfl,HB.out⟩
end
end Go.Proofs.Ytnicaicjgaoolaa
