/-
  What the proof of the law leans on: contracts of the program's functions, one behind another. No condition.
-/
import Derived.Test.YtnicaicjgaoolaaU0
import Derived.Test.YtnicaicjgaoolaaU9
import Derived.Test.YtnicaicjgaoolaaU10
import Derived.Test.YtnicaicjgaoolaaU3
set_option linter.unusedVariables false
set_option linter.unusedSimpArgs false
namespace Go.Proofs.Ytnicaicjgaoolaa
open Go.RowKit Go.ChangeMaps Go.WideMaps Go.Maps
set_option maxRecDepth 20000
def ImmI (w:World) (A:List Nat) (v:Value) (l:List Int):Prop:=∃ao c,v = .slice ao l.length c/\IsI w ao l.length c l/\l.length<=c/\c<=9223372036854775807/\∀p,ao=some p->p.block∉A/\p.block<w.heap.size
def ImmL (w:World) (A:List Nat) (v:Value) (ls:List (List UInt8)):Prop :=
 (v = .slice none 0 0/\ls=[])\/∃g c cur,v = .slice (some ⟨g,0,none⟩) ls.length c/\ls.length<=c/\c<=9223372036854775807/\g∉A/\w.heap[g]? = some (.cells cur 29 (0,0))/\∀i,i<ls.length->∃u,cur[i]? = some u/\Imm w A u (ls.getD i [])
theorem pb {w w':World} {S:List Nat} {ao:Option Addr} {n c:Nat} {l:List Int} (h:IsI w ao n c l) (ho:Only S w w') (hS:∀p,ao=some p->p.block∉S):IsI w' ao n c l:=by
 obtain ⟨h1,h2,h3⟩:=h;refine ⟨h1,h2,?_⟩;rcases h3 with h3 | ⟨b,off,h4,h5⟩
 ·exact .inl h3
 ·exact .inr ⟨b,off,h4,λi hi=>ho.cell (h5 i hi) (show b∉S from hS ⟨b,off,none⟩ h4)⟩
theorem ImmI.step {w w':World} {A A' S:List Nat} {v:Value} {l:List Int} (h:ImmI w A v l) (ho:Only S w w') (hS:∀b∈S,b∈A) (he:Ext A A' w):ImmI w' A' v l:=by
 obtain ⟨ao,c,rfl,h1,h2,h9,h3⟩:=h;refine ⟨ao,c,rfl,pb h1 ho (λp hp hm=>(h3 p hp).1 (hS _ hm)),h2,h9,λp hp=>?_⟩;obtain ⟨h4,h5⟩:=h3 p hp;refine ⟨λhm=>?_,aH h5 ho.size⟩;rcases he _ hm with h6 | h6
 ·exact h4 h6
 ·omega
theorem ImmI.below {w w':World} {A:List Nat} {v:Value} {l:List Int} (h:ImmI w A v l) (hb:Below w.heap.size w w'):ImmI w' A v l:=h.step (Only.ofBelow hb []) (λb hb=>by cases hb) (Ext.refl _ _)
theorem ImmI.avoid {w w':World} {A S:List Nat} {ao:Option Addr} {n c:Nat} {l:List Int} (h:ImmI w A (.slice ao n c) l) (ho:Only S w w') (hS:∀p,ao=some p->p.block∉S):ImmI w' A (.slice ao n c) l:=by
 obtain ⟨ao',c',e,h1,h2,h9,h3⟩:=h;cases e;exact ⟨ao,c,rfl,pb h1 ho hS,h2,h9,λp hp=>⟨(h3 p hp).1,aH (h3 p hp).2 ho.size⟩⟩
theorem ImmI.fresh {w:World} {A:List Nat} (l:List Int) (vs:Array Value) (hv:vs=(l.map iv).toArray) (t:TypeId) (n:Nat) (hn:l.length=n) (hm:n<=9223372036854775807) (hA:∀b∈A,b<w.heap.size):ImmI (w.alloc (.cells vs t)) A (.slice (some ⟨w.heap.size,0,none⟩) n n) l:=by
 have h1:=j7 w l vs hv t (0,0) w.heap.size rfl n hn n;subst hn;exact ⟨_,_,rfl,h1,ah _,hm,λp hp=>by cases hp;exact ⟨λhm=>by have:=hA _ hm;simp at this,by simp⟩⟩
theorem du (w:World) (b:Nat) (row:Array Value):Only [b] w (w.setRow b row):=⟨rfl,rfl,rfl,by simp,λk _ hk=>setRow_other _ _ _ _ (by simpa using hk)⟩
theorem ImmL.step {w w':World} {A A' S:List Nat} {v:Value} {ls:List (List UInt8)} (h:ImmL w A v ls) (ho:Only S w w') (hS:∀b∈S,b∈A) (he:Ext A A' w):ImmL w' A' v ls:=by
 rcases h with ⟨rfl,rfl⟩ | ⟨g,c,cur,rfl,h1,h2,h3,h4,h5⟩
 ·exact .inl ⟨rfl,rfl⟩
 ·refine .inr ⟨g,c,cur,rfl,h1,h2,λhm=>?_,ho.keeps h4 (λhm=>h3 (hS g hm)),λi hi=>?_⟩
  ·rcases he g hm with h6 | h6
   ·exact h3 h6
   ·have:=aU h4;omega
  ·obtain ⟨u,k1,k2⟩:=h5 i hi;exact ⟨u,k1,k2.step ho hS he⟩
theorem ImmL.below {w w':World} {A:List Nat} {v:Value} {ls:List (List UInt8)} (h:ImmL w A v ls) (hb:Below w.heap.size w w'):ImmL w' A v ls:=h.step (Only.ofBelow hb []) (λb hb=>by cases hb) (Ext.refl _ _)
theorem OwnI.caps {w:World} {base:Nat} {e:TypeId} {v:Value} {l:List Int} (h:OwnI w base e v l):∃ao c,v = .slice ao l.length c/\IsI w ao l.length c l/\l.length<=c/\c<=9223372036854775807/\∀p,ao=some p->base<=p.block/\p.block<w.heap.size:=by
 obtain ⟨ao,c,e1,h1⟩:=h.isI;have hlt:=h.lt;rcases h.2 with ⟨h2,h3⟩ | ⟨g,cap,cur,hv,hg,hh,hn,hm,hs,ht⟩
 ·rw [e1] at h2;simp only [Value.slice.injEq] at h2;obtain ⟨rfl,h0,rfl⟩:=h2;exact ⟨none,0,e1,h1,by omega,by omega,(λp hp=>by cases hp)⟩
 ·rw [e1] at hv;cases hv;unfold maxLen at hm;exact ⟨_,_,e1,h1,hn,by omega,λp hp=>by cases hp;exact ⟨hg,aU hh⟩⟩
theorem ImmI.new {w w':World} {A:List Nat} {e:TypeId} {v:Value} {l:List Int} (h:OwnI w' w.heap.size e v l) (hA:∀b∈A,b<w.heap.size):ImmI w' A v l:=by
 obtain ⟨ao,c,rfl,h1,h2,h9,h3⟩:=h.caps;exact ⟨ao,c,rfl,h1,h2,h9,λp hp=>⟨λhm=>by have:=hA _ hm;have:=(h3 p hp).1;omega,(h3 p hp).2⟩⟩
theorem ImmL.new {w w':World} {A:List Nat} {v:Value} {ls:List (List UInt8)} (h:OwnL w' w.heap.size v ls) (hA:∀b∈A,b<w.heap.size):ImmL w' A v ls:=by
 obtain ⟨vs,h1,⟨h9,h2⟩,h3,h4⟩:=h;rcases h2 with ⟨rfl,h0⟩ | ⟨g,cap,cur,rfl,hg,hh,hn,hm,hs,ht⟩
 ·exact .inl ⟨rfl,bC.1 h0⟩
 ·unfold maxLen at hm;refine .inr ⟨g,cap,cur,rfl,hn,by omega,λhm=>by have:=hA _ hm;omega,hh,λi hi=>?_⟩;have hiv:i<vs.length:=by omega
  refine ⟨vs.getD i undef,?_,Imm.new (h4 i hi) hA⟩;have h7:(cur.toList.take (ls.length*1))[i]? = vs[i]? := by rw [ht]
  rw [bP,ax (by omega),cA] at h7;rw [h7];simp [hiv]
def eA (m:Msg) (v u:Value):Value:=.agg #[.int .i64 m.frm,.int .i64 m.dst,.int .i64 m.kind,v,u]
structure IsMsg (w:World) (A:List Nat) (m:Msg) (v u:Value):Prop where
 n:ImmI w A v m.N
 b:ImmL w A u m.B
theorem IsMsg.step {w w':World} {A A' S:List Nat} {m:Msg} {v u:Value} (h:IsMsg w A m v u) (ho:Only S w w') (hS:∀b∈S,b∈A) (he:Ext A A' w):IsMsg w' A' m v u:=⟨h.n.step ho hS he,h.b.step ho hS he⟩
theorem IsMsg.below {w w':World} {A:List Nat} {m:Msg} {v u:Value} (h:IsMsg w A m v u) (hb:Below w.heap.size w w'):IsMsg w' A m v u:=⟨h.n.below hb,h.b.below hb⟩
theorem gZ (f t k:Int) (ao:Option Addr) (n c:Nat) (bo:Option Addr) (q d:Nat):(#[Value.int .i64 f,.int .i64 t,.int .i64 k,.slice ao n c,.slice bo q d]).all (·.oneCell')=true:=by
 refine Array.all_eq_true_iff_forall_mem.2 λu hu=>?_;simp only [List.mem_toArray,bG,iZ,or_false] at hu;rcases hu with rfl | rfl | rfl | rfl | rfl<;>rfl
theorem hZ:(Try.prog.info? 51).map (·.size)=some 5:=by kernel_rfl
section
variable {w w':World} {A A' X X':List Nat} {r d l:Nat} {s s':Rp} {k k':Dk}
theorem j0 (h:Nd w A X r d l s k) (dst kind:Int) (N:List Int) (ao:Option Addr) (n c:Nat):Calls Try.prog 44 #[.pointer (some ⟨r,0,none⟩),.int .i64 dst,.int .i64 kind,.slice ao n c] w λe w'=>e = .returned (eA (dv s dst kind N) (.slice ao n c) (.slice none 0 0))/\Below w.heap.size w w':=by
 obtain ⟨vl,gv,gn,gm,gh,hcell⟩:=h.cells;have hlt:=aU hcell;have hc0:(w.alloc (.cells #[.int .i64 0,.int .i64 0,.int .i64 0,.slice none 0 0,.slice none 0 0] 51)).cell? ⟨r,0,none⟩=some (.int .i64 (s.own:Int)):=by
  rw [af (bp hcell _)];rfl
 clear hcell h;go_enter Try.func44,Try.ntmps44
 go_wp2_with fail
 exact bodyPost_ret (results_cell_row (P:=Try.prog) (fn:=Try.f44) rfl _ _ w.heap.size 51 _ _ _ rfl (aJ _ _) Try.underlying51 rfl hZ) rfl ⟨rfl,(aB _ _).alloc (ah _) _⟩
end
section
variable {w w':World} {A A' X X':List Nat} {r d l:Nat} {s s':Rp} {k k':Dk}
set_option maxHeartbeats 1000000 in
theorem vm (h:Nd w A X r d l s k) (hb:s.log.length<=1000000) (p q:Nat) (hp:w.cell? ⟨p,0,none⟩=some (.pointer (some ⟨r,0,none⟩))):Calls Try.prog 43 #[.int .i64 (q:Int),.pointer (some ⟨p,0,none⟩)] w λe w'=>∃v u,e = .returned (eA (bf s 5 q) v u)/\IsMsg w' A (bf s 5 q) v u/\Below w.heap.size w w':=by
 have HWA:=ab h.alt;obtain ⟨al,cl,hc8,hl1,hl2⟩:=h.loglen;obtain ⟨vl,gv,gn,gm,gh,hcell⟩:=h.cells;have hc6:w.cell? ⟨r,6,none⟩=some (.int .i64 s.term):=by rw [af hcell];rfl
 have hbw:∀o,Below w.heap.size w (w.alloc o):=λo=>(aB _ _).alloc (ah _) _;have HN:=ab h;clear h hcell;go_enter Try.func43,Try.ntmps43
 go_upto_region 1 with (fail)
 have hbx:=ab (aJ w (.cells #[.int .i64 0,.int .i64 0,.int .i64 0,.slice none 0 0,.slice none 0 0] 51));have hV:=hbw (.cells #[.int .i64 0,.int .i64 0,.int .i64 0,.slice none 0 0,.slice none 0 0] 51);have hVs:w.heap.size<(w.alloc (.cells #[.int .i64 0,.int .i64 0,.int .i64 0,.slice none 0 0,.slice none 0 0] 51)).heap.size:=by simp
 generalize w.alloc (.cells #[.int .i64 0,.int .i64 0,.int .i64 0,.slice none 0 0,.slice none 0 0] 51)=V at *;have c1:∀w',Below w.heap.size w w'->w'.cell? ⟨p,0,none⟩=some (.pointer (some ⟨r,0,none⟩)):=λw' hb=>cell_later hb hp;have c6:∀w',Below w.heap.size w w'->w'.cell? ⟨r,6,none⟩=some (.int .i64 s.term):=λw' hb=>cell_later hb hc6;have c8:∀w',Below w.heap.size w w'->w'.cell? ⟨r,8,none⟩=some (.slice al s.log.length cl):=λw' hb=>cell_later hb hc8;have HLT:Hid (∀w',Below V.heap.size V w'->Calls Try.prog 45 #[.pointer (some ⟨r,0,none⟩),.int .i64 (s.log.length:Int)] w' λe w2=>e = .returned (.int .i64 (bT s.log s.log.length))/\w'=w2):=ab (λw' hb2=>fp (HN.out.below (hV.trans (hb2.mono hV.size))) _ (ah _) hb);have HSAY:Hid (∀w',Below V.heap.size V w'->∀dst kind N ao n c,Calls Try.prog 44 #[.pointer (some ⟨r,0,none⟩),.int .i64 dst,.int .i64 kind,.slice ao n c] w' λe w2=>e = .returned (eA (dv s dst kind N) (.slice ao n c) (.slice none 0 0))/\Below w'.heap.size w' w2):=ab (λw' hb2 dst kind N ao n c=>j0 (HN.out.below (hV.trans (hb2.mono hV.size))) dst kind N ao n c);have HZ3:Hid (∀w',Below V.heap.size V w'->w'.heap[w.heap.size]? = some (.cells #[.int .i64 0,.int .i64 0,.int .i64 0,.slice none 0 0,.slice none 0 0] 51 (0,0))):=ab (λw' hb=>bQ hb hVs hbx.out);have HVV:Hid (∀w',Below V.heap.size V w'->Below w.heap.size w w'):=ab (λw' hb=>hV.trans (hb.mono hV.size));have HV18:Hid (∀o,Below V.heap.size V (V.drew.alloc o)):=ab (λo=>(ap V 1).alloc (ah _) o);have HFIN:Hid (∀w3 row,Below V.heap.size V w3->Below w.heap.size w (w3.setRow w.heap.size row)):=ab (λw3 row hb=>by
  have hon:=du w3 w.heap.size row;exact (hV.trans (hb.mono hV.size)).trans (hon.below (hV.trans (hb.mono hV.size)).size (by simp)))
 have HVS:=ab hVs;have HT:Hid (bf s 5 q=dv s (q:Int) 5 [s.term,(s.log.length:Int),bT s.log s.log.length]):=ab rfl;have HWL:Hid ((s.own:Int)=(s.own:Int)):=ab rfl;clear hp hc6 hc8 hV hVs hbw hb hbx;generalize hlt:bT s.log s.log.length=lt at *;generalize s.log.length=sl at *;generalize s.term=st at *;have HEND:Hid (∀w3 row,Below (V.drew.alloc (.cells #[.int .i64 st,.int .i64 (sl:Int),.int .i64 lt] 2)).heap.size (V.drew.alloc (.cells #[.int .i64 st,.int .i64 (sl:Int),.int .i64 lt] 2)) w3->IsMsg (w3.setRow w.heap.size row) A (dv s (q:Int) 5 [st,(sl:Int),lt]) (.slice (some ⟨V.heap.size,0,none⟩) 3 3) (.slice none 0 0)):=ab (λw3 row hb=>by
  have h1:ImmI (V.drew.alloc (.cells #[.int .i64 st,.int .i64 (sl:Int),.int .i64 lt] 2)) A (.slice (some ⟨V.heap.size,0,none⟩) 3 3) [st,(sl:Int),lt]:=ImmI.fresh (w:=V.drew) [st,(sl:Int),lt] _ rfl 2 3 rfl (by omega) (λb hb=>by have:=HWA.out b hb;have:=HVS.out;show b<V.heap.size;omega);refine ⟨(h1.below hb).avoid (du _ _ _) (λp hp=>?_),.inl ⟨rfl,rfl⟩⟩;cases hp;have:=HVS.out;simp;omega)
 refine wp_region_held_drew (S:=λw'=>Below w.heap.size w w') (by kernel_rfl) (HVV.out _ (ap V 1)) (λam=>?_);refine az 0 ?_;refine az 1 ?_;refine az 2 ?_;refine az 3 ?_;refine az 4 ?_;refine az 5 ?_;refine az 6 ?_;refine az 7 ?_;refine az 8 ?_;refine az 9 ?_;refine az 10 ?_;refine az 11 ?_;refine az 12 ?_;refine az 13 ?_;refine az 14 ?_;refine az 15 ?_;refine az 16 ?_;refine cf 17 λK hK=>?_;go_simp
 refine (HLT.out _ (ap V 1)).mono ?_;rintro e wa ⟨rfl,rfl⟩;go_wp2_with fail
 refine hK.out _ _ am (λam=>?_);clear hK K;refine bu ?_;refine cf 18 λK hK=>?_;go_simp
 refine hK.out _ _ (HVV.out _ (HV18.out _)) (λam=>?_);clear hK K;refine bu ?_;refine cf 19 λK hK=>?_;go_simp
 refine (HSAY.out _ (HV18.out _) _ _ [st,(sl:Int),lt] _ _ _).mono ?_;rintro e w3 ⟨rfl,hb3⟩;have HB3:=ab ((HV18.out _).trans (hb3.mono (HV18.out _).size));have HB4:=ab hb3;go_wp2_with fail
 refine hK.out _ _ (HVV.out _ HB3.out) (λam=>?_);clear hK K;refine bu ?_;refine cf 20 λK hK=>?_;have hz3:=HZ3.out _ HB3.out;refine bL rfl λQ' hQ=>?_;refine wpList_store_row rfl 51 (.tmp 3) (.tmp 23) rfl w.heap.size #[.int .i64 (s.own:Int),.int .i64 (q:Int),.int .i64 5,.slice (some ⟨V.heap.size,0,none⟩) 3 3,.slice none 0 0] rfl rfl 51 _ hz3 hZ rfl (gZ _ _ _ _ _ _ _ _ _) ?_;refine hQ _ _ ?_;clear hQ Q';refine hK.out _ _ (HFIN.out _ _ HB3.out) (λam=>?_);clear hK K;refine bu ?_;refine fc ?_;go_wp2_with fail
 exact bodyPost_ret (results_cell_row (P:=Try.prog) (fn:=Try.f43) rfl _ _ w.heap.size 51 _ _ _ rfl (setRow_heap _ _ _ _ 51 (0,0) (HZ3.out _ HB3.out)) Try.underlying51 rfl hZ) rfl ⟨_,_,rfl,by rw [HT.out];exact HEND.out _ _ HB4.out,HFIN.out _ _ HB3.out⟩
set_option maxHeartbeats 1000000 in
theorem tf (h:Nd w A X r d l s k) (hb:s.log.length<=1000000) (p q:Nat) (hp:w.cell? ⟨p,0,none⟩=some (.pointer (some ⟨r,0,none⟩))):Calls Try.prog 65 #[.int .i64 (q:Int),.pointer (some ⟨p,0,none⟩)] w λe w'=>∃v u,e = .returned (eA (bf s 1 q) v u)/\IsMsg w' A (bf s 1 q) v u/\Below w.heap.size w w':=by
 have HWA:=ab h.alt;obtain ⟨al,cl,hc8,hl1,hl2⟩:=h.loglen;obtain ⟨vl,gv,gn,gm,gh,hcell⟩:=h.cells;have hc6:w.cell? ⟨r,6,none⟩=some (.int .i64 s.term):=by rw [af hcell];rfl
 have hbw:∀o,Below w.heap.size w (w.alloc o):=λo=>(aB _ _).alloc (ah _) _;have HN:=ab h;clear h hcell;go_enter Try.func65,Try.ntmps65
 go_upto_region 1 with (fail)
 have hbx:=ab (aJ w (.cells #[.int .i64 0,.int .i64 0,.int .i64 0,.slice none 0 0,.slice none 0 0] 51));have hV:=hbw (.cells #[.int .i64 0,.int .i64 0,.int .i64 0,.slice none 0 0,.slice none 0 0] 51);have hVs:w.heap.size<(w.alloc (.cells #[.int .i64 0,.int .i64 0,.int .i64 0,.slice none 0 0,.slice none 0 0] 51)).heap.size:=by simp
 generalize w.alloc (.cells #[.int .i64 0,.int .i64 0,.int .i64 0,.slice none 0 0,.slice none 0 0] 51)=V at *;have c1:∀w',Below w.heap.size w w'->w'.cell? ⟨p,0,none⟩=some (.pointer (some ⟨r,0,none⟩)):=λw' hb=>cell_later hb hp;have c6:∀w',Below w.heap.size w w'->w'.cell? ⟨r,6,none⟩=some (.int .i64 s.term):=λw' hb=>cell_later hb hc6;have c8:∀w',Below w.heap.size w w'->w'.cell? ⟨r,8,none⟩=some (.slice al s.log.length cl):=λw' hb=>cell_later hb hc8;have HLT:Hid (∀w',Below V.heap.size V w'->Calls Try.prog 45 #[.pointer (some ⟨r,0,none⟩),.int .i64 (s.log.length:Int)] w' λe w2=>e = .returned (.int .i64 (bT s.log s.log.length))/\w'=w2):=ab (λw' hb2=>fp (HN.out.below (hV.trans (hb2.mono hV.size))) _ (ah _) hb);have HSAY:Hid (∀w',Below V.heap.size V w'->∀dst kind N ao n c,Calls Try.prog 44 #[.pointer (some ⟨r,0,none⟩),.int .i64 dst,.int .i64 kind,.slice ao n c] w' λe w2=>e = .returned (eA (dv s dst kind N) (.slice ao n c) (.slice none 0 0))/\Below w'.heap.size w' w2):=ab (λw' hb2 dst kind N ao n c=>j0 (HN.out.below (hV.trans (hb2.mono hV.size))) dst kind N ao n c);have HZ3:Hid (∀w',Below V.heap.size V w'->w'.heap[w.heap.size]? = some (.cells #[.int .i64 0,.int .i64 0,.int .i64 0,.slice none 0 0,.slice none 0 0] 51 (0,0))):=ab (λw' hb=>bQ hb hVs hbx.out);have HVV:Hid (∀w',Below V.heap.size V w'->Below w.heap.size w w'):=ab (λw' hb=>hV.trans (hb.mono hV.size));have HV18:Hid (∀o,Below V.heap.size V (V.drew.alloc o)):=ab (λo=>(ap V 1).alloc (ah _) o);have HFIN:Hid (∀w3 row,Below V.heap.size V w3->Below w.heap.size w (w3.setRow w.heap.size row)):=ab (λw3 row hb=>by
  have hon:=du w3 w.heap.size row;exact (hV.trans (hb.mono hV.size)).trans (hon.below (hV.trans (hb.mono hV.size)).size (by simp)))
 have HVS:=ab hVs;have HT:Hid (bf s 1 q=dv s (q:Int) 1 [s.term,(s.log.length:Int),bT s.log s.log.length]):=ab rfl;have HWL:Hid ((s.own:Int)=(s.own:Int)):=ab rfl;clear hp hc6 hc8 hV hVs hbw hb hbx;generalize hlt:bT s.log s.log.length=lt at *;generalize s.log.length=sl at *;generalize s.term=st at *;have HEND:Hid (∀w3 row,Below (V.drew.alloc (.cells #[.int .i64 st,.int .i64 (sl:Int),.int .i64 lt] 2)).heap.size (V.drew.alloc (.cells #[.int .i64 st,.int .i64 (sl:Int),.int .i64 lt] 2)) w3->IsMsg (w3.setRow w.heap.size row) A (dv s (q:Int) 1 [st,(sl:Int),lt]) (.slice (some ⟨V.heap.size,0,none⟩) 3 3) (.slice none 0 0)):=ab (λw3 row hb=>by
  have h1:ImmI (V.drew.alloc (.cells #[.int .i64 st,.int .i64 (sl:Int),.int .i64 lt] 2)) A (.slice (some ⟨V.heap.size,0,none⟩) 3 3) [st,(sl:Int),lt]:=ImmI.fresh (w:=V.drew) [st,(sl:Int),lt] _ rfl 2 3 rfl (by omega) (λb hb=>by have:=HWA.out b hb;have:=HVS.out;show b<V.heap.size;omega);refine ⟨(h1.below hb).avoid (du _ _ _) (λp hp=>?_),.inl ⟨rfl,rfl⟩⟩;cases hp;have:=HVS.out;simp;omega)
 refine wp_region_held_drew (S:=λw'=>Below w.heap.size w w') (by kernel_rfl) (HVV.out _ (ap V 1)) (λam=>?_);refine az 0 ?_;refine az 1 ?_;refine az 2 ?_;refine az 3 ?_;refine az 4 ?_;refine az 5 ?_;refine az 6 ?_;refine az 7 ?_;refine az 8 ?_;refine az 9 ?_;refine az 10 ?_;refine az 11 ?_;refine az 12 ?_;refine az 13 ?_;refine az 14 ?_;refine az 15 ?_;refine az 16 ?_;refine cf 17 λK hK=>?_;go_simp
 refine (HLT.out _ (ap V 1)).mono ?_;rintro e wa ⟨rfl,rfl⟩;go_wp2_with fail
 refine hK.out _ _ am (λam=>?_);clear hK K;refine bu ?_;refine cf 18 λK hK=>?_;go_simp
 refine hK.out _ _ (HVV.out _ (HV18.out _)) (λam=>?_);clear hK K;refine bu ?_;refine cf 19 λK hK=>?_;go_simp
 refine (HSAY.out _ (HV18.out _) _ _ [st,(sl:Int),lt] _ _ _).mono ?_;rintro e w3 ⟨rfl,hb3⟩;have HB3:=ab ((HV18.out _).trans (hb3.mono (HV18.out _).size));have HB4:=ab hb3;go_wp2_with fail
 refine hK.out _ _ (HVV.out _ HB3.out) (λam=>?_);clear hK K;refine bu ?_;refine cf 20 λK hK=>?_;have hz3:=HZ3.out _ HB3.out;refine bL rfl λQ' hQ=>?_;refine wpList_store_row rfl 51 (.tmp 3) (.tmp 23) rfl w.heap.size #[.int .i64 (s.own:Int),.int .i64 (q:Int),.int .i64 1,.slice (some ⟨V.heap.size,0,none⟩) 3 3,.slice none 0 0] rfl rfl 51 _ hz3 hZ rfl (gZ _ _ _ _ _ _ _ _ _) ?_;refine hQ _ _ ?_;clear hQ Q';refine hK.out _ _ (HFIN.out _ _ HB3.out) (λam=>?_);clear hK K;refine bu ?_;refine fc ?_;go_wp2_with fail
 exact bodyPost_ret (results_cell_row (P:=Try.prog) (fn:=Try.f65) rfl _ _ w.heap.size 51 _ _ _ rfl (setRow_heap _ _ _ _ 51 (0,0) (HZ3.out _ HB3.out)) Try.underlying51 rfl hZ) rfl ⟨_,_,rfl,by rw [HT.out];exact HEND.out _ _ HB4.out,HFIN.out _ _ HB3.out⟩
end
end Go.Proofs.Ytnicaicjgaoolaa
