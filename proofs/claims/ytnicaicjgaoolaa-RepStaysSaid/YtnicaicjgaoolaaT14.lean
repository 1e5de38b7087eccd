/-
  What the proof of the law leans on: contracts of the program's functions, one behind another. No condition.
-/
import Derived.Deep.AppendLies
import Derived.Test.YtnicaicjgaoolaaT13
import Derived.Test.YtnicaicjgaoolaaT10
import Derived.Test.YtnicaicjgaoolaaT3
set_option linter.unusedVariables false
set_option linter.unusedSimpArgs false
namespace Go.Proofs.Ytnicaicjgaoolaa
open Go.RowKit Go.ChangeMaps Go.WideMaps Go.Maps
set_option maxRecDepth 20000
theorem info51:(Try.prog.info? 51).map (fun i=>(i.zero,i.size,i.bytes))=some (some (.agg #[.int .i64 0,.int .i64 0,.int .i64 0,.slice none 0 0,.slice none 0 0]),5,72):=by kernel_rfl
structure MsV where
 m:Msg
 v:Value
 u:Value
def ms0:MsV:=⟨⟨0,0,0,[],[]⟩,.slice none 0 0,.slice none 0 0⟩
def cells5 (x:MsV):List Value:=[.int .i64 x.m.frm,.int .i64 x.m.dst,.int .i64 x.m.kind,x.v,x.u]
def row5 (l:List MsV):List Value:=l.flatMap cells5
theorem row5_append (l m:List MsV):row5 (l++m)=row5 l++row5 m:=by simp [row5]
theorem row5_at (l:List MsV) (i j:Nat) (hi:i<l.length) (hj:j<5):(row5 l)[i*5+j]? = (cells5 (l.getD i ms0))[j]? := by
 induction l generalizing i with
 | nil=>simp at hi
 | cons s l ih =>
  cases i with
  | zero =>
   rw [show row5 (s::l)=cells5 s++row5 l from rfl,List.getElem?_append_left (by simp [cells5];omega)]
   simp
  | succ i =>
   rw [show row5 (s::l)=cells5 s++row5 l from rfl,List.getElem?_append_right (by simp [cells5];omega)]
   have:=ih i (by simpa using hi)
   rw [show (i+1)*5+j - (cells5 s).length=i*5+j by simp [cells5];omega,this]
   simp
/-- messages in a row that the call made: what they hold lies elsewhere -/
structure OwnMs (w:World) (A:List Nat) (base:Nat) (v:Value) (ms:List Msg):Prop where
 ex:∃ps:List MsV,ps.map MsV.m=ms∧w.ownsRow base 51 5 v ms.length (row5 ps)∧∀x∈ps,IsMsg w (A++v.ownBlock.toList) x.m x.v x.u
theorem IsMsg.one {w:World} {A:List Nat} {m:Msg} {v u:Value} (h:IsMsg w A m v u):v.oneCell'=true∧u.oneCell'=true:=by
 obtain ⟨⟨ao,c,rfl,_⟩,h2⟩:=h
 refine ⟨rfl,?_⟩
 rcases h2 with ⟨rfl,_⟩ | ⟨g,c,cur,rfl,_⟩<;>rfl
theorem OwnMs.nil (w:World) (A:List Nat) (base:Nat):OwnMs w A base (.slice none 0 0) []:=⟨⟨[],rfl,World.ownsRow_nil _ _ _ _,fun x hx=>by cases hx⟩⟩
theorem OwnMs.below {w w':World} {A:List Nat} {base:Nat} {v:Value} {ms:List Msg} (h:OwnMs w A base v ms) (hb:Below w.heap.size w w'):OwnMs w' A base v ms:=by
 obtain ⟨ps,h1,h2,h3⟩:=h
 exact ⟨ps,h1,rows_below h2 hb,fun x hx=>(h3 x hx).below hb⟩
theorem OwnMs.mono {w:World} {A:List Nat} {base base':Nat} {v:Value} {ms:List Msg} (h:OwnMs w A base v ms) (hb:base'≤base):OwnMs w A base' v ms:=by
 obtain ⟨ps,h1,h2,h3⟩:=h
 exact ⟨ps,h1,rows_mono h2 hb,h3⟩
theorem OwnMs.lt {w:World} {A:List Nat} {base:Nat} {v:Value} {ms:List Msg} (h:OwnMs w A base v ms):∀k∈v.ownBlock.toList,base≤k∧k<w.heap.size:=by
 obtain ⟨ps,h1,h2,h3⟩:=h
 intro k hk
 exact World.ownsRow.lt h2 k (by simpa using hk)
theorem OwnMs.shape {w:World} {A:List Nat} {base:Nat} {v:Value} {ms:List Msg} (h:OwnMs w A base v ms):∃ao c,v = .slice ao ms.length c∧ms.length≤c∧c≤9223372036854775807:=by
 obtain ⟨ps,h1,h2,h3⟩:=h
 exact rows_form h2
theorem wpList_append_ms {w:World} {ops:Array Oper} {rest:List Oper} {o:Oper} {a:Act} {Q:Exit→Act→World→Prop} {A:List Nat} (hgd:o.guard=none) (s x:Operand)
  (ho:o.op = .call { callee:=.builtin .append,args:=#[s,x],argTypes:=#[35,35]})
  (base:Nat) (vs:Value) (ms:List Msg) (hs:a.eval s=vs) (hown:OwnMs w A base vs ms)
  (H:Nat) (m:Msg) (v u:Value) (hx:a.eval x = .slice (some ⟨H,0,none⟩) 1 1) (hcell:w.heap[H]? = some (.cells #[.int .i64 m.frm,.int .i64 m.dst,.int .i64 m.kind,v,u] 51 (0,0))) (hel:IsMsg w (A++vs.ownBlock.toList) m v u)
  (hbytes:ms.length+1≤100000) (hbase:base≤w.heap.size)
  (h:∀v' w',OwnMs w' A base v' (ms++[m])→Only vs.ownBlock.toList w w'→wpList Try.prog ops Q rest (a.put o.dst v') w'):wpList Try.prog ops Q (o::rest) a w:=by
 obtain ⟨i0,hi0,hz0,hz1,hz2⟩:=info_parts info51
 obtain ⟨ps,h1,h2,h3⟩:=hown
 have hone:∀y∈cells5 ⟨m,v,u⟩,y.oneCell'=true:=by
  intro y hy
  simp only [cells5,List.mem_cons,List.not_mem_nil,or_false] at hy
  rcases hy with rfl | rfl | rfl | rfl | rfl
  ·rfl
  ·rfl
  ·rfl
  ·exact hel.one.1
  ·exact hel.one.2
 refine wpList_append_lies w hgd s x 35 ho base 51 i0 _ 5 72 Try.underlying35 hi0 hz0 hz1 hz2 rfl (by decide) vs _ _ hs h2 ⟨H,0,none⟩ 1 1 (cells5 ⟨m,v,u⟩) hx rfl ?_ hone (by decide) (by unfold maxLen;omega) (by omega) hbase w.heap.size rfl ?_
 ·intro j y hj
  rw [Addr.add_lit,Nat.zero_add,cell_heap hcell,←hj]
  simp [cells5]
 ·intro g cap w' g1 g2 g3 _
  have hon:=grown_only g2
  have hsub:∀b∈vs.ownBlock.toList,b∈A++vs.ownBlock.toList:=fun b hb=>List.mem_append_right _ hb
  have hext:Ext (A++vs.ownBlock.toList) (A++(Value.slice (some ⟨g,0,none⟩) (ms.length+1) cap).ownBlock.toList) w:=fun b hb=>by
   rcases List.mem_append.1 hb with hb | hb
   ·exact .inl (List.mem_append_left _ hb)
   ·have hbg:b=g:=by simp [Value.ownBlock] at hb;exact hb
    rw [hbg]
    rcases g3 with g3 | g3
    ·exact .inl (List.mem_append_right _ (by simp [g3]))
    ·exact .inr (by omega)
  refine h _ w' ⟨ps++[⟨m,v,u⟩],by simp [h1],by rw [List.length_append,row5_append];simpa [row5] using g1,fun y hy=>?_⟩ hon
  rcases List.mem_append.1 hy with hy | hy
  ·exact (h3 y hy).step hon hsub hext
  ·obtain rfl:=List.mem_singleton.1 hy;exact hel.step hon hsub hext
section
variable {w w':World} {A A' X X':List Nat} {r d l:Nat} {s s':Rp} {k k':Dk}
/-- more blocks may turn: new ones -/
theorem Nd.more (h:Nd w A X r d l s k) (hb:Below w.heap.size w w') {B:List Nat} (hB:∀b∈B,w.heap.size≤b∧b<w'.heap.size):Nd w' (A++B) X r d l s k:=by
 obtain ⟨D,L,R,vl,gv,gn,gm,gh,h,hX⟩:=h
 have ho:=Only.ofBelow hb []
 have he:Ext A (A++B) w:=fun b hb=>by
  rcases List.mem_append.1 hb with hb | hb
  ·exact .inl hb
  ·exact .inr (hB b hb).1
 have h0:∀b∈([]:List Nat),b∈A:=fun b hb=>by cases hb
 refine ⟨D,L,R,vl,gv,gn,gm,gh,⟨⟨h.wd.wl.keep ho (by simp) h0 he,h.wd.dk.below hb,h.wd.dis,fun b hb=>List.mem_append_left _ (h.wd.dA b hb),fun b hb=>List.mem_append_left _ (h.wd.lA b hb),fun b hb2=>?_⟩,ho.keeps h.cell (by simp),h.log.step ho h0 he,ho.keeps h.votes (by simp),ho.keeps h.next (by simp),ho.keeps h.mat (by simp),ho.keeps h.heard (by simp),h.nm,h.rR,h.vR,h.nR,h.mR,h.hR,h.dRD,h.dRL,fun b hb=>List.mem_append_left _ (h.rA b hb)⟩,hX⟩
 rcases List.mem_append.1 hb2 with h1 | h1
 ·exact Nat.lt_of_lt_of_le (h.wd.alt b h1) hb.size
 ·exact (hB b h1).2
theorem othersC_step (s:Rp) (f:Nat→Msg) (i:Nat):((List.range (i+1)).filter fun j=>j != s.own).map f=(((List.range i).filter fun j=>j != s.own).map f)++(if i=s.own then [] else [f i]):=by
 rw [List.range_succ,List.filter_append,List.map_append]
 by_cases h:i=s.own
 ·simp [h]
 ·simp [h]
set_option maxHeartbeats 2000000 in
theorem others_laying (h:Nd w A X r d l s k) (hn:s.n≤5) (hw:Wf s k) (hnx:∀i,i<s.n→s.next.getD i 0≤s.log.length):Calls Try.prog 30 #[.pointer (some ⟨r,0,none⟩),.func (.func 31) #[.pointer (some ⟨r,0,none⟩)] #[]] w fun e w'=>∃v,e = .returned v∧OwnMs w' A w.heap.size v (othersM s (layingM s))∧Below w.heap.size w w':=by
 have HF:Hid (∀W B,Below w.heap.size w W→(∀b∈B,w.heap.size≤b∧b<W.heap.size)→∀i,i<s.n→i≠s.own→Calls Try.prog 31 #[.pointer (some ⟨r,0,none⟩),.int .i64 (i:Int)] W fun e w'=>∃v u,e = .returned (msgV (layingM s i) v u)∧IsMsg w' (A++B) (layingM s i) v u∧Below W.heap.size W w'):=Lib.hid (fun W B hb hB i hi hne=>laying_any (h.more hb hB) hw i hi (hnx i hi))
 obtain ⟨vl,gv,gn,gm,gh,hcell⟩:=h.cells
 have hc0:w.cell? ⟨r,0,none⟩=some (.int .i64 (s.own:Int)):=by rw [cell_heap hcell];rfl
 have hc1:w.cell? ⟨r,1,none⟩=some (.int .i64 (s.n:Int)):=by rw [cell_heap hcell];rfl
 have HWA:=Lib.hid h.alt
 have HST:=Lib.hid (othersC_step s (layingM s))
 have HALL:Hid (othersM s (layingM s)=((List.range s.n).filter fun j=>j != s.own).map (layingM s)):=Lib.hid rfl
 have HLE:Hid (∀i,(((List.range i).filter fun j=>j != s.own).map (layingM s)).length≤i):=Lib.hid (fun i=>by
  rw [List.length_map]
  exact Nat.le_trans (List.length_filter_le _ _) (by simp))
 have H0:Hid (((List.range 0).filter fun j=>j != s.own).map (layingM s)=[]):=Lib.hid (by simp)
 clear h hcell hw hnx
 generalize hcc:(fun i=>((List.range i).filter fun j=>j != s.own).map (layingM s))=cc at *
 have HCC:Hid (∀i,((List.range i).filter fun j=>j != s.own).map (layingM s)=cc i):=Lib.hid (fun i=>by rw [←hcc])
 clear hcc
 simp only [HCC.out] at HST HALL HLE H0
 clear HCC
 generalize hff:layingM s=ff at *
 clear hff
 generalize s.n=n at *
 generalize s.own=ow at *
 go_enter Try.func30,Try.ntmps30
 go_wp2_with fail
 go_loopw [11,5] (fun i v wr=>∃j:Nat,j≤n∧i = .int .i64 (j:Int)∧OwnMs wr A w.heap.size v (cc j)∧Below w.heap.size w wr) (fun i _ _=>n - (intOf i).toNat)
 case atStart=>exact ⟨0,Nat.zero_le _,rfl,by rw [H0.out];exact OwnMs.nil _ _ _,Below.refl _ _⟩
 case round =>
  obtain ⟨j,hj,rfl,ho,hb⟩:=hrel
  have HO:=Lib.hid ho
  have HB:=Lib.hid hb
  have hk0:=cell_later hb hc0
  clear ho hb
  obtain ⟨ao,c,rfl,_,_⟩:=HO.out.shape
  have q6:IntKind.i64.wrap ((j:Int)+1)=(j:Int)+1:=IntWalk.i64_in _ (by omega)
  have HSJ:=Lib.hid (HST.out j)
  have HLJ:=Lib.hid (HLE.out j)
  by_cases hlt:j<n
  ·have q5:(j:Int)<(n:Int):=by omega
   by_cases hjo:j=ow
   ·rw [if_pos hjo,List.append_nil] at HSJ
    have g1:((j:Int) != (ow:Int))=false:=by simp [hjo]
    clear hlt hjo
    go_wp2_with fail
    go_roundw
    case rel=>exact ⟨j+1,by omega,rfl,by rw [HSJ.out];exact HO.out,HB.out⟩
    case measure=>simp [intOf];omega
   ·rw [if_neg hjo] at HSJ
    have g1:((j:Int) != (ow:Int))=true:=(by rw [bne_iff_ne];omega)
    have HC:=Lib.hid (HF.out wr _ HB.out HO.out.lt j hlt hjo)
    clear hlt hjo
    go_wp2_with fail
    refine HC.out.mono ?_
    rintro e w2 ⟨v,u,rfl,hm2,hb2⟩
    have hO2:=HO.out.below hb2
    have HB2:=Lib.hid (HB.out.trans (hb2.mono HB.out.size))
    have ho1:=hm2.one
    unfold msgV
    have hbB:Below w2.heap.size w2 (w2.alloc (.cells #[.int .i64 (ff j).frm,.int .i64 (ff j).dst,.int .i64 (ff j).kind,v,u] 51)):=(Below.refl _ _).alloc (Nat.le_refl _) _
    have HM3:=Lib.hid (hm2.below hbB)
    have HO3:=Lib.hid (hO2.below hbB)
    have HB3:=Lib.hid (HB2.out.alloc HB2.out.size (.cells #[.int .i64 (ff j).frm,.int .i64 (ff j).dst,.int .i64 (ff j).kind,v,u] 51))
    have HX3:=Lib.hid (heap_new w2 (.cells #[.int .i64 (ff j).frm,.int .i64 (ff j).dst,.int .i64 (ff j).kind,v,u] 51))
    clear hm2 hb2 hO2 hbB
    go_wp2_with (at_builtin;refine wpList_append_ms rfl (.tmp 20) (.tmp 24) rfl w.heap.size (.slice ao (cc j).length c) (cc j) rfl HO3.out w2.heap.size (ff j) v u rfl HX3.out HM3.out (by have:=HLJ.out;omega) HB3.out.size ?_)
    intro v4 w4 ho4 hon4
    have HO4:=Lib.hid ho4
    have HB4:=Lib.hid (HB3.out.trans (hon4.below HB3.out.size (fun b hb=>(HO3.out.lt b hb).1)))
    clear ho4 hon4
    go_wp2_with fail
    case roundEnd=>exact ⟨⟨j+1,by omega,rfl,by rw [HSJ.out];exact HO4.out,HB4.out⟩,by simp [intOf];omega⟩
  ·obtain rfl:j=n:=by omega
   go_wp2_with fail
   go_ret
   rw [HALL.out]
   exact ⟨_,rfl,HO.out,HB.out⟩
set_option maxHeartbeats 2000000 in
theorem others_tick1 (h:Nd w A X r d l s k) (hn:s.n≤5) (hl:s.log.length≤1000000) (p:Nat) (hp:w.cell? ⟨p,0,none⟩=some (.pointer (some ⟨r,0,none⟩))):Calls Try.prog 30 #[.pointer (some ⟨r,0,none⟩),.func (.func 43) #[] #[.pointer (some ⟨p,0,none⟩)]] w fun e w'=>∃v,e = .returned v∧OwnMs w' A w.heap.size v (othersM s (telling s 5))∧Below w.heap.size w w':=by
 have HF:Hid (∀W B,Below w.heap.size w W→(∀b∈B,w.heap.size≤b∧b<W.heap.size)→∀i,i<s.n→i≠s.own→Calls Try.prog 43 #[.int .i64 (i:Int),.pointer (some ⟨p,0,none⟩)] W fun e w'=>∃v u,e = .returned (msgV (telling s 5 i) v u)∧IsMsg w' (A++B) (telling s 5 i) v u∧Below W.heap.size W w'):=Lib.hid (fun W B hb hB i hi hne=>tick1_any (h.more hb hB) hl p i (cell_later hb hp))
 obtain ⟨vl,gv,gn,gm,gh,hcell⟩:=h.cells
 have hc0:w.cell? ⟨r,0,none⟩=some (.int .i64 (s.own:Int)):=by rw [cell_heap hcell];rfl
 have hc1:w.cell? ⟨r,1,none⟩=some (.int .i64 (s.n:Int)):=by rw [cell_heap hcell];rfl
 have HWA:=Lib.hid h.alt
 have HST:=Lib.hid (othersC_step s (telling s 5))
 have HALL:Hid (othersM s (telling s 5)=((List.range s.n).filter fun j=>j != s.own).map (telling s 5)):=Lib.hid rfl
 have HLE:Hid (∀i,(((List.range i).filter fun j=>j != s.own).map (telling s 5)).length≤i):=Lib.hid (fun i=>by
  rw [List.length_map]
  exact Nat.le_trans (List.length_filter_le _ _) (by simp))
 have H0:Hid (((List.range 0).filter fun j=>j != s.own).map (telling s 5)=[]):=Lib.hid (by simp)
 clear h hcell hl hp
 generalize hcc:(fun i=>((List.range i).filter fun j=>j != s.own).map (telling s 5))=cc at *
 have HCC:Hid (∀i,((List.range i).filter fun j=>j != s.own).map (telling s 5)=cc i):=Lib.hid (fun i=>by rw [←hcc])
 clear hcc
 simp only [HCC.out] at HST HALL HLE H0
 clear HCC
 generalize hff:telling s 5=ff at *
 clear hff
 generalize s.n=n at *
 generalize s.own=ow at *
 go_enter Try.func30,Try.ntmps30
 go_wp2_with fail
 go_loopw [11,5] (fun i v wr=>∃j:Nat,j≤n∧i = .int .i64 (j:Int)∧OwnMs wr A w.heap.size v (cc j)∧Below w.heap.size w wr) (fun i _ _=>n - (intOf i).toNat)
 case atStart=>exact ⟨0,Nat.zero_le _,rfl,by rw [H0.out];exact OwnMs.nil _ _ _,Below.refl _ _⟩
 case round =>
  obtain ⟨j,hj,rfl,ho,hb⟩:=hrel
  have HO:=Lib.hid ho
  have HB:=Lib.hid hb
  have hk0:=cell_later hb hc0
  clear ho hb
  obtain ⟨ao,c,rfl,_,_⟩:=HO.out.shape
  have q6:IntKind.i64.wrap ((j:Int)+1)=(j:Int)+1:=IntWalk.i64_in _ (by omega)
  have HSJ:=Lib.hid (HST.out j)
  have HLJ:=Lib.hid (HLE.out j)
  by_cases hlt:j<n
  ·have q5:(j:Int)<(n:Int):=by omega
   by_cases hjo:j=ow
   ·rw [if_pos hjo,List.append_nil] at HSJ
    have g1:((j:Int) != (ow:Int))=false:=by simp [hjo]
    clear hlt hjo
    go_wp2_with fail
    go_roundw
    case rel=>exact ⟨j+1,by omega,rfl,by rw [HSJ.out];exact HO.out,HB.out⟩
    case measure=>simp [intOf];omega
   ·rw [if_neg hjo] at HSJ
    have g1:((j:Int) != (ow:Int))=true:=(by rw [bne_iff_ne];omega)
    have HC:=Lib.hid (HF.out wr _ HB.out HO.out.lt j hlt hjo)
    clear hlt hjo
    go_wp2_with fail
    refine HC.out.mono ?_
    rintro e w2 ⟨v,u,rfl,hm2,hb2⟩
    have hO2:=HO.out.below hb2
    have HB2:=Lib.hid (HB.out.trans (hb2.mono HB.out.size))
    have ho1:=hm2.one
    unfold msgV
    have hbB:Below w2.heap.size w2 (w2.alloc (.cells #[.int .i64 (ff j).frm,.int .i64 (ff j).dst,.int .i64 (ff j).kind,v,u] 51)):=(Below.refl _ _).alloc (Nat.le_refl _) _
    have HM3:=Lib.hid (hm2.below hbB)
    have HO3:=Lib.hid (hO2.below hbB)
    have HB3:=Lib.hid (HB2.out.alloc HB2.out.size (.cells #[.int .i64 (ff j).frm,.int .i64 (ff j).dst,.int .i64 (ff j).kind,v,u] 51))
    have HX3:=Lib.hid (heap_new w2 (.cells #[.int .i64 (ff j).frm,.int .i64 (ff j).dst,.int .i64 (ff j).kind,v,u] 51))
    clear hm2 hb2 hO2 hbB
    go_wp2_with (at_builtin;refine wpList_append_ms rfl (.tmp 20) (.tmp 24) rfl w.heap.size (.slice ao (cc j).length c) (cc j) rfl HO3.out w2.heap.size (ff j) v u rfl HX3.out HM3.out (by have:=HLJ.out;omega) HB3.out.size ?_)
    intro v4 w4 ho4 hon4
    have HO4:=Lib.hid ho4
    have HB4:=Lib.hid (HB3.out.trans (hon4.below HB3.out.size (fun b hb=>(HO3.out.lt b hb).1)))
    clear ho4 hon4
    go_wp2_with fail
    case roundEnd=>exact ⟨⟨j+1,by omega,rfl,by rw [HSJ.out];exact HO4.out,HB4.out⟩,by simp [intOf];omega⟩
  ·obtain rfl:j=n:=by omega
   go_wp2_with fail
   go_ret
   rw [HALL.out]
   exact ⟨_,rfl,HO.out,HB.out⟩
set_option maxHeartbeats 2000000 in
theorem others_stand1 (h:Nd w A X r d l s k) (hn:s.n≤5) (hl:s.log.length≤1000000) (p:Nat) (hp:w.cell? ⟨p,0,none⟩=some (.pointer (some ⟨r,0,none⟩))):Calls Try.prog 30 #[.pointer (some ⟨r,0,none⟩),.func (.func 65) #[] #[.pointer (some ⟨p,0,none⟩)]] w fun e w'=>∃v,e = .returned v∧OwnMs w' A w.heap.size v (othersM s (telling s 1))∧Below w.heap.size w w':=by
 have HF:Hid (∀W B,Below w.heap.size w W→(∀b∈B,w.heap.size≤b∧b<W.heap.size)→∀i,i<s.n→i≠s.own→Calls Try.prog 65 #[.int .i64 (i:Int),.pointer (some ⟨p,0,none⟩)] W fun e w'=>∃v u,e = .returned (msgV (telling s 1 i) v u)∧IsMsg w' (A++B) (telling s 1 i) v u∧Below W.heap.size W w'):=Lib.hid (fun W B hb hB i hi hne=>stand1_any (h.more hb hB) hl p i (cell_later hb hp))
 obtain ⟨vl,gv,gn,gm,gh,hcell⟩:=h.cells
 have hc0:w.cell? ⟨r,0,none⟩=some (.int .i64 (s.own:Int)):=by rw [cell_heap hcell];rfl
 have hc1:w.cell? ⟨r,1,none⟩=some (.int .i64 (s.n:Int)):=by rw [cell_heap hcell];rfl
 have HWA:=Lib.hid h.alt
 have HST:=Lib.hid (othersC_step s (telling s 1))
 have HALL:Hid (othersM s (telling s 1)=((List.range s.n).filter fun j=>j != s.own).map (telling s 1)):=Lib.hid rfl
 have HLE:Hid (∀i,(((List.range i).filter fun j=>j != s.own).map (telling s 1)).length≤i):=Lib.hid (fun i=>by
  rw [List.length_map]
  exact Nat.le_trans (List.length_filter_le _ _) (by simp))
 have H0:Hid (((List.range 0).filter fun j=>j != s.own).map (telling s 1)=[]):=Lib.hid (by simp)
 clear h hcell hl hp
 generalize hcc:(fun i=>((List.range i).filter fun j=>j != s.own).map (telling s 1))=cc at *
 have HCC:Hid (∀i,((List.range i).filter fun j=>j != s.own).map (telling s 1)=cc i):=Lib.hid (fun i=>by rw [←hcc])
 clear hcc
 simp only [HCC.out] at HST HALL HLE H0
 clear HCC
 generalize hff:telling s 1=ff at *
 clear hff
 generalize s.n=n at *
 generalize s.own=ow at *
 go_enter Try.func30,Try.ntmps30
 go_wp2_with fail
 go_loopw [11,5] (fun i v wr=>∃j:Nat,j≤n∧i = .int .i64 (j:Int)∧OwnMs wr A w.heap.size v (cc j)∧Below w.heap.size w wr) (fun i _ _=>n - (intOf i).toNat)
 case atStart=>exact ⟨0,Nat.zero_le _,rfl,by rw [H0.out];exact OwnMs.nil _ _ _,Below.refl _ _⟩
 case round =>
  obtain ⟨j,hj,rfl,ho,hb⟩:=hrel
  have HO:=Lib.hid ho
  have HB:=Lib.hid hb
  have hk0:=cell_later hb hc0
  clear ho hb
  obtain ⟨ao,c,rfl,_,_⟩:=HO.out.shape
  have q6:IntKind.i64.wrap ((j:Int)+1)=(j:Int)+1:=IntWalk.i64_in _ (by omega)
  have HSJ:=Lib.hid (HST.out j)
  have HLJ:=Lib.hid (HLE.out j)
  by_cases hlt:j<n
  ·have q5:(j:Int)<(n:Int):=by omega
   by_cases hjo:j=ow
   ·rw [if_pos hjo,List.append_nil] at HSJ
    have g1:((j:Int) != (ow:Int))=false:=by simp [hjo]
    clear hlt hjo
    go_wp2_with fail
    go_roundw
    case rel=>exact ⟨j+1,by omega,rfl,by rw [HSJ.out];exact HO.out,HB.out⟩
    case measure=>simp [intOf];omega
   ·rw [if_neg hjo] at HSJ
    have g1:((j:Int) != (ow:Int))=true:=(by rw [bne_iff_ne];omega)
    have HC:=Lib.hid (HF.out wr _ HB.out HO.out.lt j hlt hjo)
    clear hlt hjo
    go_wp2_with fail
    refine HC.out.mono ?_
    rintro e w2 ⟨v,u,rfl,hm2,hb2⟩
    have hO2:=HO.out.below hb2
    have HB2:=Lib.hid (HB.out.trans (hb2.mono HB.out.size))
    have ho1:=hm2.one
    unfold msgV
    have hbB:Below w2.heap.size w2 (w2.alloc (.cells #[.int .i64 (ff j).frm,.int .i64 (ff j).dst,.int .i64 (ff j).kind,v,u] 51)):=(Below.refl _ _).alloc (Nat.le_refl _) _
    have HM3:=Lib.hid (hm2.below hbB)
    have HO3:=Lib.hid (hO2.below hbB)
    have HB3:=Lib.hid (HB2.out.alloc HB2.out.size (.cells #[.int .i64 (ff j).frm,.int .i64 (ff j).dst,.int .i64 (ff j).kind,v,u] 51))
    have HX3:=Lib.hid (heap_new w2 (.cells #[.int .i64 (ff j).frm,.int .i64 (ff j).dst,.int .i64 (ff j).kind,v,u] 51))
    clear hm2 hb2 hO2 hbB
    go_wp2_with (at_builtin;refine wpList_append_ms rfl (.tmp 20) (.tmp 24) rfl w.heap.size (.slice ao (cc j).length c) (cc j) rfl HO3.out w2.heap.size (ff j) v u rfl HX3.out HM3.out (by have:=HLJ.out;omega) HB3.out.size ?_)
    intro v4 w4 ho4 hon4
    have HO4:=Lib.hid ho4
    have HB4:=Lib.hid (HB3.out.trans (hon4.below HB3.out.size (fun b hb=>(HO3.out.lt b hb).1)))
    clear ho4 hon4
    go_wp2_with fail
    case roundEnd=>exact ⟨⟨j+1,by omega,rfl,by rw [HSJ.out];exact HO4.out,HB4.out⟩,by simp [intOf];omega⟩
  ·obtain rfl:j=n:=by omega
   go_wp2_with fail
   go_ret
   rw [HALL.out]
   exact ⟨_,rfl,HO.out,HB.out⟩
end
end Go.Proofs.Ytnicaicjgaoolaa
namespace Go.Proofs.Ytnicaicjgaoolaa
open Go.RowKit Go.ChangeMaps Go.WideMaps Go.Maps
set_option maxRecDepth 20000
section
variable (p:String)
def z07x0:Oper:=⟨some 14,.move (.tmp 0),39,p,#[],none⟩
def z07x1:Oper:=⟨some 15,.nilCheck (.tmp 14),0,p,#[⟨0,.data⟩],none⟩
def z07x2:Oper:=⟨some 16,.fieldAddr 66 (.tmp 15) 13,0,p,#[⟨1,.data⟩],none⟩
def z07x3:Oper:=⟨some 17,.load 27 (.tmp 16),27,p,#[⟨2,.data⟩],none⟩
def z07x4:Oper:=⟨some 18,.move (.tmp 3),3,p,#[],none⟩
def z07x5:Oper:=⟨some 19,.move (.tmp 0),39,p,#[],none⟩
def z07x6:Oper:=⟨some 20,.nilCheck (.tmp 19),0,p,#[⟨5,.data⟩],none⟩
def z07x7:Oper:=⟨some 21,.fieldAddr 66 (.tmp 20) 14,0,p,#[⟨6,.data⟩],none⟩
def z07x8:Oper:=⟨some 22,.load 27 (.tmp 21),27,p,#[⟨7,.data⟩],none⟩
def z07x9:Oper:=⟨some 23,.move (.tmp 3),3,p,#[⟨16,.gcOnly Departure.lateStores⟩],none⟩
def z07x10:Oper:=⟨some 24,.move (.tmp 0),39,p,#[],none⟩
def z07x11:Oper:=⟨some 25,.nilCheck (.tmp 24),0,p,#[⟨10,.data⟩],none⟩
def z07x12:Oper:=⟨some 26,.fieldAddr 66 (.tmp 25) 8,0,p,#[⟨11,.data⟩],none⟩
def z07x13:Oper:=⟨some 27,.load 62 (.tmp 26),62,p,#[⟨12,.data⟩],none⟩
def z07x14:Oper:=⟨some 28,.call { callee:=Callee.builtin Builtin.len,args:=#[.tmp 27],argTypes:=#[62]},3,p,#[⟨13,.data⟩],none⟩
def z07x15:Oper:=⟨some 29,.indexAddr 27 (.tmp 17) (.tmp 18),0,p,#[⟨3,.data⟩,⟨4,.data⟩,⟨0,.phase⟩,⟨1,.phase⟩,⟨2,.phase⟩,⟨3,.phase⟩,⟨4,.phase⟩,⟨5,.textOnly Departure.lateStores⟩,⟨6,.textOnly Departure.lateStoresUnsure⟩,⟨7,.textOnly Departure.lateStoresUnsure⟩,⟨8,.phase⟩,⟨9,.textOnly Departure.lateStores⟩,⟨10,.phase⟩,⟨11,.phase⟩,⟨12,.phase⟩,⟨13,.phase⟩,⟨14,.phase⟩],none⟩
def z07x16:Oper:=⟨none,.store 3 (.tmp 29) (.tmp 28),0,p,#[⟨15,.data⟩,⟨14,.data⟩,⟨0,.phase⟩,⟨1,.phase⟩,⟨2,.phase⟩,⟨3,.phase⟩,⟨4,.phase⟩,⟨5,.textOnly Departure.lateStores⟩,⟨6,.textOnly Departure.lateStoresUnsure⟩,⟨7,.textOnly Departure.lateStoresUnsure⟩,⟨8,.phase⟩,⟨9,.textOnly Departure.lateStores⟩,⟨10,.phase⟩,⟨11,.phase⟩,⟨12,.phase⟩,⟨13,.phase⟩,⟨14,.phase⟩],none⟩
def z07x17:Oper:=⟨some 30,.indexAddr 27 (.tmp 22) (.tmp 23),0,p,#[⟨8,.data⟩,⟨9,.data⟩,⟨0,.phase⟩,⟨1,.phase⟩,⟨2,.phase⟩,⟨3,.phase⟩,⟨4,.phase⟩,⟨5,.phase⟩,⟨6,.phase⟩,⟨7,.phase⟩,⟨8,.phase⟩,⟨9,.phase⟩,⟨10,.phase⟩,⟨11,.phase⟩,⟨12,.phase⟩,⟨13,.phase⟩,⟨14,.phase⟩,⟨15,.phase⟩,⟨16,.phase⟩],none⟩
def z07x18:Oper:=⟨none,.store 3 (.tmp 30) (Operand.const (Value.int IntKind.i64 0)),0,p,#[⟨17,.data⟩,⟨16,.chain⟩,⟨0,.phase⟩,⟨1,.phase⟩,⟨2,.phase⟩,⟨3,.phase⟩,⟨4,.phase⟩,⟨5,.phase⟩,⟨6,.phase⟩,⟨7,.phase⟩,⟨8,.phase⟩,⟨9,.phase⟩,⟨10,.phase⟩,⟨11,.phase⟩,⟨12,.phase⟩,⟨13,.phase⟩,⟨14,.phase⟩,⟨15,.phase⟩,⟨16,.phase⟩],none⟩
end
attribute [go_sem,reducible] z07x0 z07x1 z07x2 z07x3 z07x4 z07x5 z07x6 z07x7 z07x8 z07x9 z07x10 z07x11 z07x12 z07x13 z07x14 z07x15 z07x16 z07x17 z07x18
def ldS (s:Rp) (j:Nat):Rp:={ s with leads:=true,next:=List.replicate j s.log.length++s.next.drop j,mat:=List.replicate j 0++s.mat.drop j }
theorem rep_set (l:List Nat) (x j:Nat) (h:j<l.length):(List.replicate j x++l.drop j).set j x=List.replicate (j+1) x++l.drop (j+1):=by
 rw [List.set_append_right _ _ (by simp),List.length_replicate,Nat.sub_self,List.drop_eq_getElem_cons h,List.set_cons_zero,List.replicate_succ',List.append_assoc]
 rfl
theorem ldS_step (s:Rp) (j:Nat) (h1:j<s.next.length) (h2:j<s.mat.length):{ ldS s j with next:=(ldS s j).next.set j s.log.length,mat:=(ldS s j).mat.set j 0 }=ldS s (j+1):=by
 unfold ldS
 simp only
 rw [rep_set _ _ _ h1,rep_set _ _ _ h2]
theorem ldS_all (s:Rp) (h1:s.next.length=s.n) (h2:s.mat.length=s.n):ldS s s.n={ s with leads:=true,next:=List.replicate s.n s.log.length,mat:=List.replicate s.n 0 }:=by
 unfold ldS
 rw [List.drop_eq_nil_of_le (by omega),List.drop_eq_nil_of_le (by omega),List.append_nil,List.append_nil]
/-- a call's end: messages, and the node -/
structure MsP (w w':World) (A X:List Nat) (r d l:Nat) (e:Ending) (p:List Msg×Rp×Dk):Prop where
 ex:∃v A' X',e = .returned v∧Nd w' A' X' r d l p.2.1 p.2.2∧OwnMs w' A' w.heap.size v p.1∧Mv A A' X X' w w'∧∀b,v.ownBlock=some b→b∉A'
section
variable {w w':World} {A A' X X':List Nat} {r d l:Nat} {s s':Rp} {k k':Dk}
theorem MsP.none (h:NdP w w' A X r d l s' k'):MsP w w' A X r d l (.returned (.slice none 0 0)) ([],s',k'):=by
 obtain ⟨A',X',h,m⟩:=h
 exact ⟨_,A',X',rfl,h,OwnMs.nil _ _ _,m,(fun b hb=>by cases hb)⟩
theorem MsP.trans {w'':World} {e:Ending} {p:List Msg×Rp×Dk} (m:Mv A A' X X' w w') (h:MsP w' w'' A' X' r d l e p):MsP w w'' A X r d l e p:=by
 obtain ⟨v,A2,X2,he,h,ho,m2,hv⟩:=h
 exact ⟨v,A2,X2,he,h,ho.mono m.mv.only.size,m.trans m2,hv⟩
theorem others_fin {v:Value} {ms:List Msg} (h:Nd w A X r d l s k) (ho:OwnMs w' A w.heap.size v ms) (hb:Below w.heap.size w w'):MsP w w' A X r d l (.returned v) (ms,s,k) :=
 ⟨v,A,X,rfl,h.below hb,ho,Mv.below hb,fun b hb2 hm=>by have:=(ho.lt b (by simp [hb2])).1;have:=h.alt b hm;omega⟩
theorem imm_nil (w:World) (A:List Nat):Imm w A (.slice none 0 0) []:=⟨none,0,rfl,isB_nil w,Nat.le_refl _,(fun p hp=>by cases hp)⟩
set_option maxHeartbeats 2000000 in
theorem lead_any (h:Nd w A X r d l s k) (hw:Wf s k):Calls Try.prog 53 #[.pointer (some ⟨r,0,none⟩)] w fun e w'=>MsP w w' A X r d l e (leadM s k):=by
 have HW:=Lib.hid hw
 have HE:Hid (leadM s k=(let s1:Rp:={ s with leads:=true,next:=List.replicate s.n s.log.length,mat:=List.replicate s.n 0 }
  let p:=putM s1 k ⟨s1.term,[]⟩
  if p.1 then (let s2:=(settleM p.2.1).2;(othersM s2 (layingM s2),s2,p.2.2)) else ([],p.2))):=Lib.hid rfl
 have HALL:=Lib.hid (ldS_all s hw.nl hw.ml)
 have HST:=Lib.hid (fun j (hj:j<s.n)=>ldS_step s j (by rw [hw.nl];exact hj) (by rw [hw.ml];exact hj))
 have HLL:Hid (∀j,(ldS s j).log=s.log∧(ldS s j).n=s.n):=Lib.hid (fun j=>⟨rfl,rfl⟩)
 have HNL:Hid (∀j,j≤s.n→(ldS s j).next.length=s.n∧(ldS s j).mat.length=s.n):=Lib.hid (fun j hj=>by
  unfold ldS
  simp [hw.nl,hw.ml];omega)
 obtain ⟨vl,gv,gn,gm,gh,hcell⟩:=h.cells
 have hz11:=free_heap hcell 11
 have hc11:w.cell? ⟨r,11,none⟩=some (.bool s.leads):=by rw [cell_heap hcell];rfl
 have hc1:w.cell? ⟨r,1,none⟩=some (.int .i64 (s.n:Int)):=by rw [cell_heap hcell];rfl
 have H0:Hid (NdP w (w.setCell ⟨r,11,none⟩ (.bool true)) A X r d l (ldS s 0) k):=Lib.hid (by
  refine Nd.scal h ((Only.refl _ _).setCell (by simp) _) ?_ rfl rfl rfl ?_ ?_ rfl
  ·intro vl gv gn gm gh hc
   rw [heap_set hc]
   rfl
  ·simp [ldS]
  ·simp [ldS])
 have hc1':(w.setCell ⟨r,11,none⟩ (.bool true)).cell? ⟨r,1,none⟩=some (.int .i64 (s.n:Int)):=by rw [cell_heap (heap_set hcell 11 _)];rfl
 have HW1:=Lib.hid (wf_leads hw)
 have hn5:=hw.n5
 have hlogb:=hw.logb
 clear h hw hcell hc1
 go_enter Try.func53,Try.ntmps53
 go_wp2_with fail
 go_loopw [11] (fun i wr=>∃j:Nat,j≤s.n∧i = .int .i64 (j:Int)∧NdP w wr A X r d l (ldS s j) k) (fun i _=>s.n - (intOf i).toNat)
 case atStart=>exact ⟨0,Nat.zero_le _,rfl,H0.out⟩
 case round =>
  obtain ⟨j,hj,rfl,hn⟩:=hrel
  clear hc1' hc11 hz11 H0
  by_cases hlt:j<s.n
  ·obtain ⟨A1,X1,h1,m1⟩:=hn
   obtain ⟨al,cl,hk8,hl1,hl2⟩:=h1.loglen
   obtain ⟨D,L,R,vl,gv,gn,gm,gh,h2,hX2⟩:=h1
   rw [(HLL.out j).1] at hk8 hl1
   have hk13:wr.cell? ⟨r,13,none⟩=some (.slice (some ⟨gn,0,none⟩) s.n s.n):=by rw [cell_heap h2.cell];rfl
   have hk14:wr.cell? ⟨r,14,none⟩=some (.slice (some ⟨gm,0,none⟩) s.n s.n):=by rw [cell_heap h2.cell];rfl
   obtain ⟨hnl,hml⟩:=HNL.out j hj
   have hcn:wr.cell? ⟨gn,j,none⟩=some (.int .i64 ((ldS s j).next.getD j 0:Int)):=by rw [cell_heap h2.next];exact natsA_at _ _ (by rw [hnl];exact hlt)
   have hcm:wr.cell? ⟨gm,j,none⟩=some (.int .i64 ((ldS s j).mat.getD j 0:Int)):=by rw [cell_heap h2.mat];exact natsA_at _ _ (by rw [hml];exact hlt)
   have hzn:=free_heap h2.next j
   have hzm:=free_heap h2.mat j
   have hj3:(j:Int)<(s.n:Int):=by omega
   have hj4:IntKind.i64.wrap ((j:Int)+1)=(j:Int)+1:=IntWalk.i64_in _ (by omega)
   have HK1:Hid (∀w3,w3=(wr.setCell ⟨gn,j,none⟩ (.int .i64 (s.log.length:Int))).drew∨w3=((wr.setCell ⟨gn,j,none⟩ (.int .i64 (s.log.length:Int))).setCell ⟨gm,j,none⟩ (.int .i64 0)).drew→w3.cell? ⟨r,13,none⟩=some (.slice (some ⟨gn,0,none⟩) s.n s.n)∧w3.cell? ⟨r,14,none⟩=some (.slice (some ⟨gm,0,none⟩) s.n s.n)∧w3.cell? ⟨r,8,none⟩=some (.slice al s.log.length cl)):=Lib.hid (fun w3 e=>by
    have ho:Only [gn,gm] wr w3:=by
     rcases e with rfl | rfl
     ·exact ((Only.refl _ _).setCell (by simp) _).drewN 1
     ·exact (((Only.refl _ _).setCell (by simp) _).setCell (by simp) _).drewN 1
    have hne:r∉[gn,gm]:=by
     have e1:=heap_ne h2.cell h2.next (by decide)
     have e2:=heap_ne h2.cell h2.mat (by decide)
     simp [e1,e2]
    exact ⟨ho.cell hk13 hne,ho.cell hk14 hne,ho.cell hk8 hne⟩)
   have HR1:Hid (∀w3,w3=((wr.setCell ⟨gn,j,none⟩ (.int .i64 (s.log.length:Int))).setCell ⟨gm,j,none⟩ (.int .i64 0)).drew→NdP w w3 A X r d l (ldS s (j+1)) k):=Lib.hid (fun w3 e=>by
    have h3:=((h2.set_next j s.log.length).set_mat j 0).below (below_drewN _ 1)
    have e2:=HST.out j hlt
    rw [e]
    refine NdP.trans m1 (NdC.ndpR (vl:=vl) (gv:=gv) (gn:=gn) (gm:=gm) (gh:=gh) (s':=ldS s (j+1)) ?_ hX2 (S:=[gn,gm]) ((((Only.refl _ _).setCell (by simp) _).setCell (by simp) _).drewN 1) ?_)
    ·rw [←e2]
     exact h3
    ·intro b hb
     simp at hb
     rcases hb with rfl | rfl
     ·exact h2.nR
     ·exact h2.mR)
   have hcm2:(wr.setCell ⟨gn,j,none⟩ (.int .i64 (s.log.length:Int))).cell? ⟨gm,j,none⟩=some (.int .i64 ((ldS s j).mat.getD j 0:Int)):=((Only.refl [gn] wr).setCell (p:=⟨gn,j,none⟩) (by simp) (.int .i64 (s.log.length:Int))).cell hcm (by simpa using h2.nm.symm)
   have hzm2:=free_heap (((Only.refl [gn] wr).setCell (p:=⟨gn,j,none⟩) (by simp) (.int .i64 (s.log.length:Int))).keeps h2.mat (by simpa using h2.nm.symm)) j
   clear m1 h2 hX2 hlt hnl hml
   generalize hsl:s.log.length=sl at *
   generalize hsn:s.n=n at *
   generalize (ldS s j).next.getD j 0=x0 at *
   generalize (ldS s j).mat.getD j 0=y0 at *
   go_upto_region 5 with (fail)
   refine wp_region_held_drew (S:=fun w'=>w'.cell? ⟨r,13,none⟩=some (.slice (some ⟨gn,0,none⟩) n n)∧w'.cell? ⟨r,14,none⟩=some (.slice (some ⟨gm,0,none⟩) n n)∧w'.cell? ⟨r,8,none⟩=some (.slice al sl cl)) (by kernel_rfl) ⟨hk13,hk14,hk8⟩ (fun hHeld=>?_)
   refine qtl 0 (z07x0 _) rfl ?_
   refine qtl 1 (z07x1 _) rfl ?_
   refine qtl 2 (z07x2 _) rfl ?_
   refine qtl 3 (z07x3 _) rfl ?_
   refine qtl 4 (z07x4 _) rfl ?_
   refine qtl 5 (z07x5 _) rfl ?_
   refine qtl 6 (z07x6 _) rfl ?_
   refine qtl 7 (z07x7 _) rfl ?_
   refine qtl 8 (z07x8 _) rfl ?_
   refine qtl 9 (z07x9 _) rfl ?_
   refine qtl 10 (z07x10 _) rfl ?_
   refine qtl 11 (z07x11 _) rfl ?_
   refine qtl 12 (z07x12 _) rfl ?_
   refine qtl 13 (z07x13 _) rfl ?_
   refine qtl 14 (z07x14 _) rfl ?_
   refine qtl 15 (z07x15 _) rfl ?_
   refine qr1 16 (z07x16 _) rfl fun K hK=>?_
   unfold z07x16
   go_simp
   refine hK.out _ _ (HK1.out _ (.inl rfl)) (fun hHeld=>?_)
   clear hK K
   refine qsp ?_
   refine qtl 17 (z07x17 _) rfl ?_
   refine qr1 18 (z07x18 _) rfl fun K hK=>?_
   unfold z07x18
   go_simp
   refine hK.out _ _ (HK1.out _ (.inr rfl)) (fun hHeld=>?_)
   clear hK K
   refine qsp ?_
   refine qdn ?_
   clear hHeld
   go_wp2_with fail
   go_roundw
   case rel=>exact ⟨j+1,by omega,rfl,HR1.out _ rfl⟩
   case measure=>simp [intOf];omega
  ·have hjn:j=s.n:=by omega
   subst hjn
   rw [HALL.out] at hn
   obtain ⟨A1,X1,h1,m1⟩:=hn
   have H1:=Lib.hid h1
   have M1:=Lib.hid m1
   have HP:=Lib.hid (put_any h1 HW1.out ⟨s.term,[]⟩ (by simp) (.slice none 0 0) (imm_nil _ _))
   have HWP:=Lib.hid (wf_put HW1.out ⟨s.term,[]⟩ (by simp))
   have HSP:=Lib.hid (same_put (s:={ s with leads:=true,next:=List.replicate s.n s.log.length,mat:=List.replicate s.n 0 }) (k:=k) ⟨s.term,[]⟩)
   obtain ⟨vl,gv,gn,gm,gh,hcell⟩:=h1.cells
   have hc6:wr.cell? ⟨r,6,none⟩=some (.int .i64 s.term):=by rw [cell_heap hcell];rfl
   clear h1 m1 hcell hlt
   unfold entV at HP
   (try simp only at HE)
   generalize putM { s with leads:=true,next:=List.replicate s.n s.log.length,mat:=List.replicate s.n 0 } k ⟨s.term,[]⟩=p at *
   obtain ⟨ok,s2,k2⟩:=p
   (try simp only at HE);(try simp only at HP);(try simp only at HWP);(try simp only at HSP)
   cases ok with
   | false =>
    rw [if_neg (by simp)] at HE
    go_wp2_with fail
    refine HP.out.mono ?_
    rintro e w2 ⟨rfl,hn2⟩
    have HN2:=Lib.hid (hn2.trans M1.out)
    clear hn2
    go_wp2_with fail
    go_ret
    rw [HE.out]
    exact MsP.none HN2.out
   | true =>
    rw [if_pos rfl] at HE
    go_wp2_with fail
    refine HP.out.mono ?_
    rintro e w2 ⟨rfl,A2,X2,h2,m2⟩
    have H2:=Lib.hid h2
    have M2:=Lib.hid (M1.out.trans m2)
    clear h2 m2
    go_wp2_with fail
    refine (settle_any H2.out HWP.out).mono ?_
    rintro e w3 ⟨rfl,A3,X3,h3,m3⟩
    have H3:=Lib.hid h3
    have M3:=Lib.hid (M2.out.trans m3)
    have HW3:=Lib.hid (wf_settle HWP.out)
    have HL3:Hid ((settleM s2).2.leads=true):=Lib.hid (by
     obtain ⟨w0,d0,l0,e0⟩:=HSP.out
     rw [settle_leads,e0])
    clear h3 m3
    generalize (settleM s2).1=ob at *
    generalize (settleM s2).2=s3 at *
    go_wp2_with fail
    refine (others_laying H3.out HW3.out.n5 HW3.out (fun i _=>(HW3.out.lead HL3.out i).1)).mono ?_
    rintro e w4 ⟨v4,rfl,ho4,hb4⟩
    have HF:=Lib.hid (MsP.trans M3.out (others_fin H3.out ho4 hb4))
    clear ho4 hb4
    go_wp2_with fail
    go_ret
    rw [HE.out]
    exact HF.out
end
end Go.Proofs.Ytnicaicjgaoolaa
namespace Go.Proofs.Ytnicaicjgaoolaa
open Go.RowKit Go.ChangeMaps Go.WideMaps Go.Maps
set_option maxRecDepth 20000
section
variable (p:String)
def z08x0:Oper:=⟨some 7,.move (.tmp 0),39,p,#[],none⟩
def z08x1:Oper:=⟨some 8,.nilCheck (.tmp 7),0,p,#[⟨0,.data⟩],none⟩
def z08x2:Oper:=⟨some 9,.fieldAddr 66 (.tmp 8) 8,0,p,#[⟨1,.data⟩],none⟩
def z08x3:Oper:=⟨some 10,.load 62 (.tmp 9),62,p,#[⟨2,.data⟩],none⟩
def z08x4:Oper:=⟨some 11,.call { callee:=Callee.builtin Builtin.len,args:=#[.tmp 10],argTypes:=#[62]},3,p,#[⟨3,.data⟩],none⟩
def z08x5:Oper:=⟨some 12,.move (.tmp 0),39,p,#[],none⟩
def z08x6:Oper:=⟨some 13,.move (.tmp 0),39,p,#[],none⟩
def z08x7:Oper:=⟨some 14,.nilCheck (.tmp 13),0,p,#[⟨6,.data⟩],none⟩
def z08x8:Oper:=⟨some 15,.fieldAddr 66 (.tmp 14) 8,0,p,#[⟨7,.data⟩],none⟩
def z08x9:Oper:=⟨some 16,.load 62 (.tmp 15),62,p,#[⟨8,.data⟩],none⟩
def z08x10:Oper:=⟨some 17,.call { callee:=Callee.builtin Builtin.len,args:=#[.tmp 16],argTypes:=#[62]},3,p,#[⟨9,.data⟩],none⟩
def z08x11:Oper:=⟨some 18,.call { callee:=Callee.value (Operand.func 45),args:=#[.tmp 12,.tmp 17],argTypes:=#[39,3]},2,p,#[⟨5,.data⟩,⟨10,.data⟩],none⟩
def z08x12:Oper:=⟨some 3,.assign (.tmp 11),2,p,#[⟨4,.data⟩,⟨11,.chain⟩,⟨0,.phase⟩,⟨1,.phase⟩,⟨2,.phase⟩,⟨3,.phase⟩,⟨4,.phase⟩,⟨5,.textOnly Departure.lateStores⟩,⟨6,.textOnly Departure.lateStores⟩,⟨7,.textOnly Departure.lateStores⟩,⟨8,.textOnly Departure.lateStores⟩,⟨9,.textOnly Departure.lateStores⟩,⟨10,.textOnly Departure.lateStoresUnsure⟩,⟨11,.textOnly Departure.lateStoresUnsure⟩],none⟩
def z08x13:Oper:=⟨some 4,.assign (.tmp 18),2,p,#[⟨11,.data⟩,⟨12,.chain⟩,⟨0,.phase⟩,⟨1,.phase⟩,⟨2,.phase⟩,⟨3,.phase⟩,⟨4,.phase⟩,⟨5,.phase⟩,⟨6,.phase⟩,⟨7,.phase⟩,⟨8,.phase⟩,⟨9,.phase⟩,⟨10,.phase⟩,⟨11,.phase⟩,⟨12,.phase⟩],none⟩
end
attribute [go_sem,reducible] z08x0 z08x1 z08x2 z08x3 z08x4 z08x5 z08x6 z08x7 z08x8 z08x9 z08x10 z08x11 z08x12 z08x13
theorem heardA_at (l:List (Int×Int×Int)) (i c:Nat) (hi:i<l.length) (hc:c<3):(heardA l)[i*3+c]? = (rivA (l.getD i (0,0,0)))[c]? := by
 have key:∀(l:List (Int×Int×Int)) (i:Nat),i<l.length→(l.flatMap rivA)[i*3+c]? = (rivA (l.getD i (0,0,0)))[c]? := by
  intro l
  induction l with
  | nil=>intro i hi;simp at hi
  | cons x l ih =>
   intro i hi
   cases i with
   | zero =>
    rw [List.flatMap_cons,List.getElem?_append_left (by simp [rivA];omega)]
    simp
   | succ i =>
    rw [List.flatMap_cons,List.getElem?_append_right (by simp [rivA];omega)]
    have:=ih i (by simpa using hi)
    rw [show (i+1)*3+c - (rivA x).length=i*3+c by simp [rivA];omega,this]
    simp
 unfold heardA
 rw [List.getElem?_toArray]
 exact key l i hi
section
variable {w w':World} {A A' X X':List Nat} {r d l:Nat} {s s':Rp} {k k':Dk}
set_option maxHeartbeats 4000000 in
theorem best_any (h:Nd w A X r d l s k) (hw:Wf s k) (hck:s.clock≤1000000):Calls Try.prog 41 #[.pointer (some ⟨r,0,none⟩)] w fun e w'=>e = .returned (.bool (bestM s))∧Below w.heap.size w w':=by
 obtain ⟨al,cl,hc8,hl1,hl2⟩:=h.loglen
 have hlb:=hw.logb
 have HLT:=Lib.hid (fun q=>lastTerm_any (h.below (below_drewN w q)) s.log.length (Nat.le_refl _) (by omega))
 obtain ⟨D,L,R,vl,gv,gn,gm,gh,h,hX⟩:=h
 have hc0:w.cell? ⟨r,0,none⟩=some (.int .i64 (s.own:Int)):=by rw [cell_heap h.cell];rfl
 have hc16:w.cell? ⟨r,16,none⟩=some (.int .i64 (s.clock:Int)):=by rw [cell_heap h.cell];rfl
 have hc17:w.cell? ⟨r,17,none⟩=some (.slice (some ⟨gh,0,none⟩) s.n s.n):=by rw [cell_heap h.cell];rfl
 have hhl:=hw.hl
 have HH:Hid (∀i,i<s.n→w.cell? ⟨gh,i*3,none⟩=some (.int .i64 (s.heard.getD i (0,0,0)).1)∧w.cell? ⟨gh,i*3+1,none⟩=some (.int .i64 (s.heard.getD i (0,0,0)).2.1)∧w.cell? ⟨gh,i*3+2,none⟩=some (.int .i64 (s.heard.getD i (0,0,0)).2.2)):=Lib.hid (fun i hi=>⟨by
  rw [cell_heap h.heard];exact heardA_at s.heard i 0 (by omega) (by omega),by
  rw [cell_heap h.heard];exact heardA_at s.heard i 1 (by omega) (by omega),by
  rw [cell_heap h.heard];exact heardA_at s.heard i 2 (by omega) (by omega)⟩)
 have HR:Hid (∀i,i<s.n→0≤(s.heard.getD i (0,0,0)).1∧(s.heard.getD i (0,0,0)).1≤(s.clock:Int)):=Lib.hid (fun i hi=>by
  have e:s.heard.getD i (0,0,0)=s.heard[i]'(by omega):=by simp [List.getD,show i<s.heard.length by omega]
  rw [e]
  exact hw.hrd _ (List.getElem_mem _))
 have HYES:Hid ((∀i,i<s.n→better s i (s.heard.getD i (0,0,0))=false)→bestM s=true):=Lib.hid (fun hh=>by
  unfold bestM
  rw [List.all_eq_true]
  intro i hi
  rw [hh i (by have:=List.mem_range.1 hi;omega)];rfl)
 have HNO1:Hid (∀i,i<s.n→better s i (s.heard.getD i (0,0,0))=true→bestM s=false):=Lib.hid (fun i hi hb=>by
  unfold bestM
  rw [List.all_eq_false]
  exact ⟨i,List.mem_range.2 (by omega),by rw [hb];simp⟩)
 have HBT:Hid (∀i x,better s i x=(!(x.1==0||decide (4<(s.clock:Int) - x.1))&&(decide (lastTermM s.log s.log.length<x.2.2)||(x.2.2==lastTermM s.log s.log.length&&(decide ((s.log.length:Int)<x.2.1)||(x.2.1==(s.log.length:Int)&&decide (i<s.own))))))):=Lib.hid (fun i x=>rfl)
 have hn5:=hw.n5
 clear h hX hw hhl
 generalize bestM s=bm at *
 generalize better s=bt at *
 generalize lastTermM s.log s.log.length=lt at *
 generalize s.log.length=sl at *
 generalize s.n=n at *
 generalize s.own=ow at *
 generalize s.clock=ck at *
 generalize s.heard=hd at *
 go_enter Try.func41,Try.ntmps41
 go_upto_region 1 with (fail)
 refine wp_region_held_drew (S:=fun w'=>w'.cell? ⟨r,8,none⟩=some (.slice al sl cl)) (by kernel_rfl) hc8 (fun hHeld=>?_)
 refine qtl 0 (z08x0 _) rfl ?_
 refine qtl 1 (z08x1 _) rfl ?_
 refine qtl 2 (z08x2 _) rfl ?_
 refine qtl 3 (z08x3 _) rfl ?_
 refine qtl 4 (z08x4 _) rfl ?_
 refine qtl 5 (z08x5 _) rfl ?_
 refine qtl 6 (z08x6 _) rfl ?_
 refine qtl 7 (z08x7 _) rfl ?_
 refine qtl 8 (z08x8 _) rfl ?_
 refine qtl 9 (z08x9 _) rfl ?_
 refine qtl 10 (z08x10 _) rfl ?_
 refine qr1 11 (z08x11 _) rfl fun K hK=>?_
 unfold z08x11
 go_simp
 refine (HLT.out _).mono ?_
 rintro e wa ⟨rfl,rfl⟩
 go_wp2_with fail
 refine hK.out _ _ hHeld (fun hHeld=>?_)
 clear hK K
 refine qsp ?_
 refine qtl 12 (z08x12 _) rfl ?_
 refine qtl 13 (z08x13 _) rfl ?_
 refine qdn ?_
 clear hHeld
 go_wp2_with fail
 go_loopw [24] (fun i wr=>∃j:Nat,j≤n∧i = .int .i64 (j:Int)∧(∀i,i<j→bt i (hd.getD i (0,0,0))=false)∧Below w.heap.size w wr) (fun i _=>n - (intOf i).toNat)
 case atStart=>exact ⟨0,Nat.zero_le _,rfl,(fun i hi=>by omega),below_drewN _ 1⟩
 case round =>
  obtain ⟨j,hj,rfl,hpr,hb⟩:=hrel
  have HPR:=Lib.hid hpr
  have HB:=Lib.hid hb
  clear hpr hb
  by_cases hlt2:j<n
  ·obtain ⟨hu0,hu1,hu2⟩:=HH.out j hlt2
   obtain ⟨hr0,hr1⟩:=HR.out j hlt2
   have HBE:=Lib.hid (HBT.out j (hd.getD j (0,0,0)))
   have HNO:=Lib.hid (HNO1.out j hlt2)
   generalize hx:hd.getD j (0,0,0)=x at *
   obtain ⟨at_,mn,tm⟩:=x
   simp only at hu0 hu1 hu2 hr0 hr1 HBE
   have HBE:Hid (bt j (at_,mn,tm)=(!(at_==0||decide (4<(ck:Int) - at_))&&(decide (lt<tm)||(tm==lt&&(decide ((sl:Int)<mn)||(mn==(sl:Int)&&decide ((j:Int)<(ow:Int)))))))):=Lib.hid (by
    have e9:decide ((j:Int)<(ow:Int))=decide (j<ow):=decide_eq_decide.2 ⟨fun h=>by omega,fun h=>by omega⟩
    rw [HBE.out,e9])
   have hu0:=cell_later HB.out hu0
   have hu1:=cell_later HB.out hu1
   have hu2:=cell_later HB.out hu2
   have hbA:Below wr.heap.size wr (wr.alloc (.cells #[.int .i64 at_,.int .i64 mn,.int .i64 tm] 76)):=(Below.refl _ _).alloc (Nat.le_refl _) _
   have hy16:=cell_later hbA (cell_later HB.out hc16)
   have hy0:=cell_later hbA (cell_later HB.out hc0)
   have hz0:(wr.alloc (.cells #[.int .i64 at_,.int .i64 mn,.int .i64 tm] 76)).cell? ⟨wr.heap.size,0,none⟩=some (.int .i64 at_):=by rw [cell_heap (heap_new _ _)];rfl
   have hz1:(wr.alloc (.cells #[.int .i64 at_,.int .i64 mn,.int .i64 tm] 76)).cell? ⟨wr.heap.size,1,none⟩=some (.int .i64 mn):=by rw [cell_heap (heap_new _ _)];rfl
   have hz2:(wr.alloc (.cells #[.int .i64 at_,.int .i64 mn,.int .i64 tm] 76)).cell? ⟨wr.heap.size,2,none⟩=some (.int .i64 tm):=by rw [cell_heap (heap_new _ _)];rfl
   have HB2:Hid (∀q,Below w.heap.size w ((wr.alloc (.cells #[.int .i64 at_,.int .i64 mn,.int .i64 tm] 76)).drewN q)):=Lib.hid (fun q=>(HB.out.trans (hbA.mono HB.out.size)).trans ((below_drewN _ q).mono (HB.out.trans (hbA.mono HB.out.size)).size))
   have q1:IntKind.i64.wrap ((ck:Int) - at_)=(ck:Int) - at_:=IntWalk.i64_in _ (by omega)
   have q2:IntKind.i64.wrap ((j:Int)+1)=(j:Int)+1:=IntWalk.i64_in _ (by omega)
   have q3:(j:Int)<(n:Int):=by omega
   have HX:=Lib.hid hx
   clear hr0 hr1 hbA hc0 hc16 hc17 hlt2 hx
   cases a1:at_==0 with
   | true =>
    go_upto_region 5 with (fail)
    generalize wr.alloc (.cells #[.int .i64 at_,.int .i64 mn,.int .i64 tm] 76)=W2 at *
    go_quiet (fail)
    go_wp2_with fail
    go_roundw
    case rel=>exact ⟨j+1,by omega,rfl,fun i hi=>(by
     by_cases hij:i=j
     ·rw [hij,HX.out,HBE.out];simp [*]
     ·exact HPR.out i (by omega)),HB2.out _⟩
    case measure=>simp [intOf];omega
   | false =>
    cases a2:decide (4<(ck:Int) - at_) with
    | true =>
     go_upto_region 5 with (fail)
     generalize wr.alloc (.cells #[.int .i64 at_,.int .i64 mn,.int .i64 tm] 76)=W2 at *
     go_quiet (fail)
     go_wp2_with fail
     go_roundw
     case rel=>exact ⟨j+1,by omega,rfl,fun i hi=>(by
      by_cases hij:i=j
      ·rw [hij,HX.out,HBE.out];simp [*]
      ·exact HPR.out i (by omega)),HB2.out _⟩
     case measure=>simp [intOf];omega
    | false =>
     cases t1:decide (lt<tm) with
     | true =>
      go_upto_region 5 with (fail)
      generalize wr.alloc (.cells #[.int .i64 at_,.int .i64 mn,.int .i64 tm] 76)=W2 at *
      go_quiet (fail)
      go_wp2_with fail
      go_ret
      exact ⟨by rw [HNO.out (by rw [HBE.out];simp [*])];rfl,HB2.out _⟩
     | false =>
      cases t2:tm==lt with
      | true =>
       cases m1:decide ((sl:Int)<mn) with
       | true =>
        go_upto_region 5 with (fail)
        generalize wr.alloc (.cells #[.int .i64 at_,.int .i64 mn,.int .i64 tm] 76)=W2 at *
        go_quiet (fail)
        go_wp2_with fail
        go_ret
        exact ⟨by rw [HNO.out (by rw [HBE.out];simp [*])];rfl,HB2.out _⟩
       | false =>
        cases m2:mn==(sl:Int) with
        | true =>
         cases o1:decide (j<ow) with
         | true =>
          go_upto_region 5 with (fail)
          generalize wr.alloc (.cells #[.int .i64 at_,.int .i64 mn,.int .i64 tm] 76)=W2 at *
          go_quiet (fail)
          go_wp2_with fail
          go_ret
          exact ⟨by rw [HNO.out (by rw [HBE.out];simp [*])];rfl,HB2.out _⟩
         | false =>
          go_upto_region 5 with (fail)
          generalize wr.alloc (.cells #[.int .i64 at_,.int .i64 mn,.int .i64 tm] 76)=W2 at *
          go_quiet (fail)
          go_wp2_with fail
          go_roundw
          case rel=>exact ⟨j+1,by omega,rfl,fun i hi=>(by
           by_cases hij:i=j
           ·rw [hij,HX.out,HBE.out];simp [*]
           ·exact HPR.out i (by omega)),HB2.out _⟩
          case measure=>simp [intOf];omega
        | false =>
         go_upto_region 5 with (fail)
         generalize wr.alloc (.cells #[.int .i64 at_,.int .i64 mn,.int .i64 tm] 76)=W2 at *
         go_quiet (fail)
         go_wp2_with fail
         go_roundw
         case rel=>exact ⟨j+1,by omega,rfl,fun i hi=>(by
          by_cases hij:i=j
          ·rw [hij,HX.out,HBE.out];simp [*]
          ·exact HPR.out i (by omega)),HB2.out _⟩
         case measure=>simp [intOf];omega
      | false =>
       go_upto_region 5 with (fail)
       generalize wr.alloc (.cells #[.int .i64 at_,.int .i64 mn,.int .i64 tm] 76)=W2 at *
       go_quiet (fail)
       go_wp2_with fail
       go_roundw
       case rel=>exact ⟨j+1,by omega,rfl,fun i hi=>(by
        by_cases hij:i=j
        ·rw [hij,HX.out,HBE.out];simp [*]
        ·exact HPR.out i (by omega)),HB2.out _⟩
       case measure=>simp [intOf];omega
  ·obtain rfl:j=n:=by omega
   go_wp2_with fail
   go_ret
   exact ⟨by rw [HYES.out HPR.out];rfl,HB.out⟩
end
end Go.Proofs.Ytnicaicjgaoolaa
