/-
  What the proof of the law leans on: contracts of the program's functions, one behind another. No condition.
-/
import Derived.Test.YtnhefallmioefaaGreatV0
import Derived.Lib.SliceRun
import Derived.Deep.DeepCutAuto
import Derived.Test.YtnhefallmioefaaGreatV10
import Derived.Test.YtnhefallmioefaaGreatV1
import Derived.Test.YtnhefallmioefaaGreatV5
import Derived.Test.YtnhefallmioefaaGreatV3
set_option linter.unusedVariables false
set_option linter.unusedSimpArgs false
namespace Go.Proofs.YtnhefallmioefaaGreat
open Go.RowKit
set_option maxRecDepth 20000
theorem CB:(Tryz.prog.info? 2).map (λi=>(i.zero,i.size,i.bytes))=some (some (.int .i64 0),1,8):=by kernel_rfl
set_option maxHeartbeats 1000000 in
theorem t8 (ao:Option Addr) (n c:Nat) (l:List Int) (w:World) (h:IsI w ao n c l) (hn:n<=1000000) :
  Calls Tryz.prog 75 #[.slice ao n c] w λe w'=>∃v,e = .returned v/\OwnI w' w.heap.size 2 v l/\Below w.heap.size w w':=by
 have q81:∀(w:World) (a:Option Addr) (n c n' c':Nat),(binOp .eql 81 (.slice a n c) (.slice none n' c')).run Tryz.prog w = .ok (.bool a.isNone) w:=λw a n c n' c'=>Lib.run_eql_slice_nil w _ _ a n c n' c' Tryz.underlying81;have HI:=ab h;cases ao with
 | none =>
  obtain ⟨rfl,rfl⟩:=h.nil rfl;obtain rfl:l=[]:=br.1 h.len;clear h;go_enter Tryz.func75,Tryz.ntmps75
  go_wp2_with fail
  go_ret
  exact ⟨_,rfl,OwnI.nil _ _ _,az _ _⟩
 | some p =>
  have hl:=h.len;clear h;go_enter Tryz.func75,Tryz.ntmps75
  go_wp2_with (at_builtin;go_loud (refine gN rfl _ _ 81 rfl w.heap.size 2 Tryz.underlying81 CB _ [] rfl (OwnI.new w w.heap.size 2 [] #[] rfl w.heap.size rfl (ah _) 0 rfl (by decide)) _ _ _ l rfl (HI.out.alloc _) (by simp;omega) (by simp) ?_;intro v3 w3 hown3 hgr3 hb3;obtain ⟨ao3,c3,rfl,_⟩:=OwnI.isI hown3;have HB3:=ab hb3;have HW:=ab hown3;clear hgr3 hb3 hown3))
  go_ret
  exact ⟨_,rfl,by rw [<-hl];simpa using HW.out,((az _ _).alloc (ah _) _).trans HB3.out⟩
structure OwnM (w:World) (base:Nat) (m:Msg) (v u:Value):Prop where
 N:OwnI w base 2 v m.N
 B:OwnL w base u m.B
theorem OwnM.only {w w':World} {base:Nat} {m:Msg} {v u:Value} (h:OwnM w base m v u) {S:List Nat} (ho:Only S w w') (hs:∀j∈S,∀cur,w.heap[j]? ≠ some (.cells cur 2 (0,0))/\w.heap[j]? ≠ some (.cells cur 31 (0,0))/\w.heap[j]? ≠ some (.cells cur 5 (0,0))):OwnM w' base m v u :=
 ⟨ej h.N ho (λj hj cur=>(hs j hj cur).1),h.B.only ho (λj hj cur=>(hs j hj cur).2)⟩
theorem OwnM.mono {w:World} {base base':Nat} {m:Msg} {v u:Value} (h:OwnM w base m v u) (hb:base'<=base):OwnM w base' m v u:=⟨h.N.mono hb,h.B.mono hb⟩
structure IsM (w:World) (m:Msg) (v u:Value):Prop where
 N:∃ao c,v = .slice ao m.N.length c/\IsI w ao m.N.length c m.N
 B:∃bo c,u = .slice bo m.B.length c/\IsBB w bo m.B.length m.B
def gV (m:Msg):Prop:=m.N.length<=1000000/\m.B.length<=100000/\∀l∈m.B,l.length<=70368744177664
def z8 (m:Msg) (v u:Value):Array Value:=#[.int .i64 m.frm,.int .i64 m.dst,.int .i64 m.kind,v,u]
def CU (m:Msg) (v u:Value):Value:=.agg (z8 m v u)
set_option maxHeartbeats 4000000 in
theorem sm (m:Msg) (v u:Value) (w:World) (h:IsM w m v u) (hm:gV m) :
  Calls Tryz.prog 43 #[CU m v u] w λe w'=>∃v' u',e = .returned (CU m v' u')/\OwnM w' w.heap.size m v' u'/\Below w.heap.size w w':=by
 obtain ⟨⟨ao,c,rfl,hns⟩,⟨bo,c2,rfl,hbs⟩⟩:=h;have HI:=ab hns;have HBB:=ab hbs;have HLM:=ab hm;have hb9:=hm.2.1;have hn9:=hm.1;clear hns hbs hm;cases m with
 | mk f t k ns bs =>
 simp only [CU,z8] at *;go_enter Tryz.func43,Tryz.ntmps43
 go_wp2_with fail
 have hbx:Below w.heap.size w ((w.alloc (.cells #[.int .i64 f,.int .i64 t,.int .i64 k,.slice ao ns.length c,.slice bo bs.length c2] 83)).alloc (.cells #[.int .i64 0,.int .i64 0,.int .i64 0,.slice none 0 0,.slice none 0 0] 83)):=((az _ _).alloc (ah _) _).alloc (by simp) _;refine (t8 ao ns.length c ns _ (HI.out.below hbx) hn9).mono ?_;rintro e w1 ⟨v1,rfl,hown,hb⟩;have hb':=hbx.trans (hb.mono hbx.size);have h0:=bd hb (j:=w.heap.size) (by simp;omega) (bb (aK w (.cells #[.int .i64 f,.int .i64 t,.int .i64 k,.slice ao ns.length c,.slice bo bs.length c2] 83)) (.cells #[.int .i64 0,.int .i64 0,.int .i64 0,.slice none 0 0,.slice none 0 0] 83));have h1:=bd hb (j:=w.heap.size+1) (by simp) (by have:=aK (w.alloc (.cells #[.int .i64 f,.int .i64 t,.int .i64 k,.slice ao ns.length c,.slice bo bs.length c2] 83)) (.cells #[.int .i64 0,.int .i64 0,.int .i64 0,.slice none 0 0,.slice none 0 0] 83);simpa using this);have hown':=hown.mono (show w.heap.size+2<=_ by simp);obtain ⟨a1,c1,rfl,_⟩:=hown'.isI;have hsz1:w.heap.size+2<=w1.heap.size:=by have:=hb.size;simp at this;omega
 have HO:=ab hown';have HB:=ab hb';clear hb hb' hown hown' hbx;generalize hH:w.heap.size=H at *;have HH:=ab hH;clear hH;have hc3:w1.cell? ⟨H,3,none⟩=some (.slice ao ns.length c):=by rw [af h0];rfl
 have hc4:w1.cell? ⟨H,4,none⟩=some (.slice bo bs.length c2):=by rw [af h0];rfl
 have hf3:=aM h0 3;have K0:=ab (aR h0 3 (.slice a1 ns.length c1));have o1:Only [H] w1 (w1.setCell ⟨H,3,none⟩ (.slice a1 ns.length c1)):=(Only.refl _ _).setCell (by simp) _;have K1:=ab (o1.keeps h1 (by simp));have HOX:=ab (ej HO.out o1 (λj hj cur=>by obtain rfl:=aj.1 hj;rw [h0];simp));have HB2:=ab (HB.out.trans (o1.below (by rw [<-HH.out];exact HB.out.size) (by simp)));have hsz2:H+2<=(w1.setCell ⟨H,3,none⟩ (.slice a1 ns.length c1)).heap.size:=aD hsz1 o1.size;clear h0 h1 o1;go_upto_region 2 with (fail)
 generalize (w1.setCell ⟨H,3,none⟩ (.slice a1 ns.length c1))=w2 at *;have hc42:w2.cell? ⟨H,4,none⟩=some (.slice bo bs.length c2):=by rw [af K0.out];rfl
 have hf42:=aM K0.out 4;clear hc3 hc4 hf3;have hbl0:Below (H+2) w2 w2:=az _ _;have HOX2:OwnI w2 (H+2) 2 (.slice a1 ns.length c1) ns:=HOX.out;have hnil:OwnL w2 (H+2) (.slice none 0 0) []:=OwnL.nil _ _;have HN:=ab hnil;have HOX3:=ab HOX2;generalize hnb:bs.length=nb at *;have HNB:=ab hnb;clear HOX2 hnil HOX hnb;go_wp2_with fail
 go_loopw [3,13] (λv i wr=>∃j:Nat,j<=nb/\i = .int .i64 (j:Int)/\∃ao' c',v = .slice ao' j c'/\OwnL wr (H+2) v (bs.take j)/\OwnI wr (H+2) 2 (.slice a1 ns.length c1) ns/\Below (H+2) w2 wr) (λ_ i _=>nb - (intOf i).toNat)
 case atStart=>exact ⟨0,by omega,rfl,none,0,rfl,HN.out,HOX3.out,hbl0⟩
 case round =>
  obtain ⟨j,hj,rfl,vo,vc,rfl,hol,hoi,hbl⟩:=hrel;have HOL:=ab hol;have HOI:=ab hoi;have HBL:=ab hbl;have hszr:H+2<=wr.heap.size:=aD hsz2 hbl.size;clear hol hoi hbl hbl0;have hbW:Below H w wr:=HB2.out.trans (HBL.out.mono (by omega));by_cases hlt:j<nb
  ·obtain ⟨b,off,rfl,hel⟩:∃b off,bo=some ⟨b,off,none⟩/\∃a m c,w.cell? ⟨b,off+j,none⟩=some (.slice a m c)/\IsB w a m c (bs.getD j [])/\m<=140737488351232:=by
    rcases HBB.out.at_ with h0 | ⟨b,off,h1,h2⟩
    ·omega
    ·exact ⟨b,off,h1,h2 j hlt⟩
   obtain ⟨ea,em,ec,he1,he2,he3⟩:=hel;have hce:=cell_later (show Below w.heap.size w wr from HH.out ▸ hbW) he1;have HE2:=ab (he2.below (show Below w.heap.size w wr from HH.out ▸ hbW));have HTK:Hid (bs.take (j+1)=bs.take j++[bs.getD j []]):=ab (by
    rw [dl (by rw [HNB.out];exact hlt)];simp [show j<bs.length by rw [HNB.out];exact hlt])
   have HTL:Hid ((bs.take j).length=j):=ab (by rw [aI,HNB.out];omega);have HLE:Hid ((bs.getD j []).length<=70368744177664):=ab (HLM.out.2.2 _ (by
    rw [aF,bK (show j<bs.length by rw [HNB.out];exact hlt)];exact bO _))
   generalize bs.getD j []=el at *;clear he1 he2;have HBW:=ab hbW;clear hbW;go_wp2_with fail
   refine (F.dd ea em ec el wr HE2.out (by have h9:=HE2.out.1;have:=HLE.out;omega)).mono ?_;rintro e w5 ⟨v5,rfl,ho5,hb5⟩;obtain ⟨a5,c5,rfl,_⟩:=ho5.isB;have HO5:=ab (ho5.mono hszr);have HB5:=ab hb5;have hsz5:H+2<=w5.heap.size:=aD hszr hb5.size;clear ho5 hb5 hce;go_wp2_with (at_builtin;refine dc rfl _ _ rfl (H+2) (.slice vo j vc) (bs.take j) rfl ((HOL.out.below HB5.out).below ((az _ _).alloc (ah _) _)) w5.heap.size _ el rfl (by rw [af (aK _ _)];rfl) (HO5.out.alloc _) (by rw [HTL.out];omega) (by simp;omega) ?_;intro a6 c6 w6 ho6 hb6 hg6;rw [HTL.out] at ho6 ⊢;have HO6:=ab ho6;have HB6:=ab hb6;have HI6:=ab (by obtain ⟨vs,_,hr,_⟩:=(HOL.out.below HB5.out).below ((az _ _).alloc (ah _) (.cells #[.slice a5 el.length c5] 31));exact kh ((HOI.out.below HB5.out).below ((az _ _).alloc (ah _) (.cells #[.slice a5 el.length c5] 31))) hr (by decide) hg6);clear ho6 hb6 hg6)
   go_roundw
   case rel=>exact ⟨j+1,by omega,by go_num,a6,c6,rfl,by rw [HTK.out];exact HO6.out,HI6.out,HBL.out.trans (((HB5.out.mono hszr).alloc hsz5 _).trans HB6.out)⟩
   case measure=>simp [intOf];omega
  ·obtain rfl:j=nb:=by omega
   have hol:=HOL.out;rw [aZ (by rw [HNB.out];omega)] at hol;have HOL2:=ab hol;have hx0:=(HBL.out.block H (by omega)).trans K0.out;have hx1:=(HBL.out.block (H+1) (by omega)).trans ((show w2.heap[H+1]? = _ from K1.out));have hc4:wr.cell? ⟨H,4,none⟩=some (.slice bo j c2):=by rw [af hx0];rfl
   have hf4:wr.frozen? ⟨H,4,none⟩=false:=aM hx0 4;have oA:Only [H] wr (wr.setCell ⟨H,4,none⟩ (.slice vo j vc)):=(Only.refl _ _).setCell (by simp) _;have hx0':(wr.setCell ⟨H,4,none⟩ (.slice vo j vc)).heap[H]? = some (.cells #[.int .i64 f,.int .i64 t,.int .i64 k,.slice a1 ns.length c1,.slice vo j vc] 83 (0,0)):=aR hx0 4 _;have hx1':=oA.keeps hx1 (by simp);have HA:=ab oA;have HX0:=ab hx0';have HX1:=ab hx1';have HNT:Hid (∀j∈[H],∀cur,wr.heap[j]? ≠ some (.cells cur 2 (0,0))/\wr.heap[j]? ≠ some (.cells cur 31 (0,0))/\wr.heap[j]? ≠ some (.cells cur 5 (0,0))):=ab (by
    intro q hq cur;obtain rfl:=aj.1 hq;rw [hx0];simp)
   clear oA hx0 hx1 hx0' hx1' hol hc42 hf42 hbW;go_upto_region 9 with (fail)
   clear hc4 hf4;have HM1:Hid (OwnM (wr.setCell ⟨H,4,none⟩ (.slice vo j vc)) (H+2) ⟨f,t,k,ns,bs⟩ (.slice a1 ns.length c1) (.slice vo j vc)):=ab (OwnM.only ⟨HOI.out,HOL2.out⟩ HA.out HNT.out);have hbA:Below H w (wr.setCell ⟨H,4,none⟩ (.slice vo j vc)):=(HB2.out.trans (HBL.out.mono (by omega))).trans (HA.out.below (by omega) (by simp));have HBA:=ab hbA;clear hbA;generalize (wr.setCell ⟨H,4,none⟩ (.slice vo j vc))=wa at *;go_wp2_with (first
    | (refine wpList_load_row rfl 83 (.tmp 1) rfl H rfl 83 #[.int .i64 f,.int .i64 t,.int .i64 k,.slice a1 ns.length c1,.slice vo j vc] (0,0) _ HX0.out Tryz.underlying83 rfl fS ?_)
    | (refine wpList_store_row rfl 83 (.tmp 2) (.tmp 25) rfl (H+1) #[.int .i64 f,.int .i64 t,.int .i64 k,.slice a1 ns.length c1,.slice vo j vc] rfl rfl 83 _ HX1.out fS rfl (fH _ _ _ _ _ _ _ _ _) ?_))
   have HHP:=ab (setRow_heap _ (H+1) _ #[.int .i64 f,.int .i64 t,.int .i64 k,.slice a1 ns.length c1,.slice vo j vc] 83 (0,0) HX1.out);have hon:Only [H+1] wa (wa.setRow (H+1) #[.int .i64 f,.int .i64 t,.int .i64 k,.slice a1 ns.length c1,.slice vo j vc]):=⟨rfl,rfl,rfl,by simp,λk _ hk=>setRow_other _ _ _ _ (by simpa using hk)⟩
   (try simp only [Exit.inBlock,Exit.then])
   refine bodyPost_ret (results_cell_row (P:=Tryz.prog) (fn:=Tryz.f43) rfl _ _ (H+1) 83 _ (0,0) _ rfl HHP.out Tryz.underlying83 rfl fS) rfl ?_;rw [HH.out];refine ⟨_,_,rfl,(HM1.out.only hon ?_).mono (by omega),HBA.out.trans (hon.below (by have:=HBA.out.size;rw [HH.out] at this;exact this) (by simp))⟩;intro q hq cur;obtain rfl:=aj.1 hq;rw [HX1.out];simp
theorem ImmL.isBB {w:World} {A:List Nat} {u:Value} {ls:List (List UInt8)} (h:ImmL w A u ls) (hl:∀l∈ls,l.length<=140737488351232):∃bo c,u = .slice bo ls.length c/\IsBB w bo ls.length ls:=by
 rcases h with ⟨rfl,rfl⟩ | ⟨g,c,cur,rfl,h1,h2,h3,h4,h5⟩
 ·exact ⟨none,0,rfl,⟨rfl,.inl rfl⟩⟩
 ·refine ⟨_,c,rfl,⟨rfl,.inr ⟨g,0,rfl,λi hi=>?_⟩⟩⟩;obtain ⟨x,k1,ao,cc,rfl,k2,_⟩:=h5 i hi;refine ⟨ao,(ls.getD i []).length,cc,?_,k2,hl _ ?_⟩
  ·rw [cy,af h4];exact k1
  ·rw [aF,bK hi];exact bO hi
theorem kC {A:List Nat} (m:Msg) (v u:Value) (w:World) (h:IsMsg w A m v u) (hl:gV m) (hA:∀b∈A,b<w.heap.size) :
  Calls Tryz.prog 43 #[df m v u] w λe w'=>∃v' u',e = .returned (df m v' u')/\IsMsg w' A m v' u'/\Below w.heap.size w w':=by
 have hm:IsM w m v u:=by
  obtain ⟨ao,c,h1,h2,_⟩:=h.n;exact ⟨⟨ao,c,h1,h2⟩,h.b.isBB (λl hl2=>aD (hl.2.2 l hl2) (by decide))⟩
 refine (sm m v u w hm hl).mono ?_;rintro e w' ⟨v',u',rfl,ho,hb⟩;exact ⟨v',u',rfl,⟨ImmI.new ho.N hA,ImmL.new ho.B hA⟩,hb⟩
open Go.ChangeMaps Go.WideMaps Go.Maps
section
variable {w w':World} {A A' X X':List Nat} {r d l:Nat} {s s':Rp} {k k':Dk}
set_option maxHeartbeats 1000000 in
theorem vn (h:Nd w A X r d l s k) (hb:s.log.length<=1000000) (p q:Nat) (hp:w.cell? ⟨p,0,none⟩=some (.pointer (some ⟨r,0,none⟩))):Calls Tryz.prog 66 #[.int .i64 (q:Int),.pointer (some ⟨p,0,none⟩)] w λe w'=>∃v u,e = .returned (df (bp s 5 q) v u)/\IsMsg w' A (bp s 5 q) v u/\Below w.heap.size w w':=by
 have HWA:=ab h.alt;obtain ⟨al,cl,hc8,hl1,hl2⟩:=h.loglen;obtain ⟨vl,gv,gn,gm,gh,hcell⟩:=h.cells;have hc6:w.cell? ⟨r,6,none⟩=some (.int .i64 s.term):=by rw [af hcell];rfl
 have hbw:∀o,Below w.heap.size w (w.alloc o):=λo=>(az _ _).alloc (ah _) _;have HN:=ab h;clear h hcell;go_enter Tryz.func66,Tryz.ntmps66
 go_upto_region 1 with (fail)
 have hbx:=ab (aK w (.cells #[.int .i64 0,.int .i64 0,.int .i64 0,.slice none 0 0,.slice none 0 0] 83));have hV:=hbw (.cells #[.int .i64 0,.int .i64 0,.int .i64 0,.slice none 0 0,.slice none 0 0] 83);have hVs:w.heap.size<(w.alloc (.cells #[.int .i64 0,.int .i64 0,.int .i64 0,.slice none 0 0,.slice none 0 0] 83)).heap.size:=by simp
 generalize w.alloc (.cells #[.int .i64 0,.int .i64 0,.int .i64 0,.slice none 0 0,.slice none 0 0] 83)=V at *;have c1:∀w',Below w.heap.size w w'->w'.cell? ⟨p,0,none⟩=some (.pointer (some ⟨r,0,none⟩)):=λw' hb=>cell_later hb hp;have c6:∀w',Below w.heap.size w w'->w'.cell? ⟨r,6,none⟩=some (.int .i64 s.term):=λw' hb=>cell_later hb hc6;have c8:∀w',Below w.heap.size w w'->w'.cell? ⟨r,8,none⟩=some (.slice al s.log.length cl):=λw' hb=>cell_later hb hc8;have HLT:Hid (∀w',Below V.heap.size V w'->Calls Tryz.prog 68 #[.pointer (some ⟨r,0,none⟩),.int .i64 (s.log.length:Int)] w' λe w2=>e = .returned (.int .i64 (bJ s.log s.log.length))/\w'=w2):=ab (λw' hb2=>eY (HN.out.below (hV.trans (hb2.mono hV.size))) _ (ah _) hb);have HSAY:Hid (∀w',Below V.heap.size V w'->∀dst kind N ao n c,Calls Tryz.prog 67 #[.pointer (some ⟨r,0,none⟩),.int .i64 dst,.int .i64 kind,.slice ao n c] w' λe w2=>e = .returned (df (da s dst kind N) (.slice ao n c) (.slice none 0 0))/\Below w'.heap.size w' w2):=ab (λw' hb2 dst kind N ao n c=>jP (HN.out.below (hV.trans (hb2.mono hV.size))) dst kind N ao n c);have HZ3:Hid (∀w',Below V.heap.size V w'->w'.heap[w.heap.size]? = some (.cells #[.int .i64 0,.int .i64 0,.int .i64 0,.slice none 0 0,.slice none 0 0] 83 (0,0))):=ab (λw' hb=>bd hb hVs hbx.out);have HVV:Hid (∀w',Below V.heap.size V w'->Below w.heap.size w w'):=ab (λw' hb=>hV.trans (hb.mono hV.size));have HV18:Hid (∀o,Below V.heap.size V (V.drew.alloc o)):=ab (λo=>(ak V 1).alloc (ah _) o);have HFIN:Hid (∀w3 row,Below V.heap.size V w3->Below w.heap.size w (w3.setRow w.heap.size row)):=ab (λw3 row hb=>by
  have hon:=dv w3 w.heap.size row;exact (hV.trans (hb.mono hV.size)).trans (hon.below (hV.trans (hb.mono hV.size)).size (by simp)))
 have HVS:=ab hVs;have HT:Hid (bp s 5 q=da s (q:Int) 5 [s.term,(s.log.length:Int),bJ s.log s.log.length]):=ab rfl;have HWL:Hid ((s.own:Int)=(s.own:Int)):=ab rfl;clear hp hc6 hc8 hV hVs hbw hb hbx;generalize hlt:bJ s.log s.log.length=lt at *;generalize s.log.length=sl at *;generalize s.term=st at *;have HEND:Hid (∀w3 row,Below (V.drew.alloc (.cells #[.int .i64 st,.int .i64 (sl:Int),.int .i64 lt] 2)).heap.size (V.drew.alloc (.cells #[.int .i64 st,.int .i64 (sl:Int),.int .i64 lt] 2)) w3->IsMsg (w3.setRow w.heap.size row) A (da s (q:Int) 5 [st,(sl:Int),lt]) (.slice (some ⟨V.heap.size,0,none⟩) 3 3) (.slice none 0 0)):=ab (λw3 row hb=>by
  have h1:ImmI (V.drew.alloc (.cells #[.int .i64 st,.int .i64 (sl:Int),.int .i64 lt] 2)) A (.slice (some ⟨V.heap.size,0,none⟩) 3 3) [st,(sl:Int),lt]:=ImmI.fresh (w:=V.drew) [st,(sl:Int),lt] _ rfl 2 3 rfl (by omega) (λb hb=>by have:=HWA.out b hb;have:=HVS.out;show b<V.heap.size;omega);refine ⟨(h1.below hb).avoid (dv _ _ _) (λp hp=>?_),.inl ⟨rfl,rfl⟩⟩;cases hp;have:=HVS.out;simp;omega)
 refine wp_region_held_drew (S:=λw'=>Below w.heap.size w w') (by kernel_rfl) (HVV.out _ (ak V 1)) (λam=>?_);refine aB 0 ?_;refine aB 1 ?_;refine aB 2 ?_;refine aB 3 ?_;refine aB 4 ?_;refine aB 5 ?_;refine aB 6 ?_;refine aB 7 ?_;refine aB 8 ?_;refine aB 9 ?_;refine aB 10 ?_;refine aB 11 ?_;refine aB 12 ?_;refine aB 13 ?_;refine aB 14 ?_;refine aB 15 ?_;refine aB 16 ?_;refine cC 17 λK hK=>?_;go_simp
 refine (HLT.out _ (ak V 1)).mono ?_;rintro e wa ⟨rfl,rfl⟩;go_wp2_with fail
 refine hK.out _ _ am (λam=>?_);clear hK K;refine bH ?_;refine cC 18 λK hK=>?_;go_simp
 refine hK.out _ _ (HVV.out _ (HV18.out _)) (λam=>?_);clear hK K;refine bH ?_;refine cC 19 λK hK=>?_;go_simp
 refine (HSAY.out _ (HV18.out _) _ _ [st,(sl:Int),lt] _ _ _).mono ?_;rintro e w3 ⟨rfl,hb3⟩;have HB3:=ab ((HV18.out _).trans (hb3.mono (HV18.out _).size));have HB4:=ab hb3;go_wp2_with fail
 refine hK.out _ _ (HVV.out _ HB3.out) (λam=>?_);clear hK K;refine bH ?_;refine cC 20 λK hK=>?_;have hz3:=HZ3.out _ HB3.out;refine dm rfl λQ' hQ=>?_;refine wpList_store_row rfl 83 (.tmp 3) (.tmp 23) rfl w.heap.size #[.int .i64 (s.own:Int),.int .i64 (q:Int),.int .i64 5,.slice (some ⟨V.heap.size,0,none⟩) 3 3,.slice none 0 0] rfl rfl 83 _ hz3 fS rfl (fH _ _ _ _ _ _ _ _ _) ?_;refine hQ _ _ ?_;clear hQ Q';refine hK.out _ _ (HFIN.out _ _ HB3.out) (λam=>?_);clear hK K;refine bH ?_;refine fI ?_;go_wp2_with fail
 exact bodyPost_ret (results_cell_row (P:=Tryz.prog) (fn:=Tryz.f66) rfl _ _ w.heap.size 83 _ _ _ rfl (setRow_heap _ _ _ _ 83 (0,0) (HZ3.out _ HB3.out)) Tryz.underlying83 rfl fS) rfl ⟨_,_,rfl,by rw [HT.out];exact HEND.out _ _ HB4.out,HFIN.out _ _ HB3.out⟩
set_option maxHeartbeats 1000000 in
theorem sY (h:Nd w A X r d l s k) (hb:s.log.length<=1000000) (p q:Nat) (hp:w.cell? ⟨p,0,none⟩=some (.pointer (some ⟨r,0,none⟩))):Calls Tryz.prog 92 #[.int .i64 (q:Int),.pointer (some ⟨p,0,none⟩)] w λe w'=>∃v u,e = .returned (df (bp s 1 q) v u)/\IsMsg w' A (bp s 1 q) v u/\Below w.heap.size w w':=by
 have HWA:=ab h.alt;obtain ⟨al,cl,hc8,hl1,hl2⟩:=h.loglen;obtain ⟨vl,gv,gn,gm,gh,hcell⟩:=h.cells;have hc6:w.cell? ⟨r,6,none⟩=some (.int .i64 s.term):=by rw [af hcell];rfl
 have hbw:∀o,Below w.heap.size w (w.alloc o):=λo=>(az _ _).alloc (ah _) _;have HN:=ab h;clear h hcell;go_enter Tryz.func92,Tryz.ntmps92
 go_upto_region 1 with (fail)
 have hbx:=ab (aK w (.cells #[.int .i64 0,.int .i64 0,.int .i64 0,.slice none 0 0,.slice none 0 0] 83));have hV:=hbw (.cells #[.int .i64 0,.int .i64 0,.int .i64 0,.slice none 0 0,.slice none 0 0] 83);have hVs:w.heap.size<(w.alloc (.cells #[.int .i64 0,.int .i64 0,.int .i64 0,.slice none 0 0,.slice none 0 0] 83)).heap.size:=by simp
 generalize w.alloc (.cells #[.int .i64 0,.int .i64 0,.int .i64 0,.slice none 0 0,.slice none 0 0] 83)=V at *;have c1:∀w',Below w.heap.size w w'->w'.cell? ⟨p,0,none⟩=some (.pointer (some ⟨r,0,none⟩)):=λw' hb=>cell_later hb hp;have c6:∀w',Below w.heap.size w w'->w'.cell? ⟨r,6,none⟩=some (.int .i64 s.term):=λw' hb=>cell_later hb hc6;have c8:∀w',Below w.heap.size w w'->w'.cell? ⟨r,8,none⟩=some (.slice al s.log.length cl):=λw' hb=>cell_later hb hc8;have HLT:Hid (∀w',Below V.heap.size V w'->Calls Tryz.prog 68 #[.pointer (some ⟨r,0,none⟩),.int .i64 (s.log.length:Int)] w' λe w2=>e = .returned (.int .i64 (bJ s.log s.log.length))/\w'=w2):=ab (λw' hb2=>eY (HN.out.below (hV.trans (hb2.mono hV.size))) _ (ah _) hb);have HSAY:Hid (∀w',Below V.heap.size V w'->∀dst kind N ao n c,Calls Tryz.prog 67 #[.pointer (some ⟨r,0,none⟩),.int .i64 dst,.int .i64 kind,.slice ao n c] w' λe w2=>e = .returned (df (da s dst kind N) (.slice ao n c) (.slice none 0 0))/\Below w'.heap.size w' w2):=ab (λw' hb2 dst kind N ao n c=>jP (HN.out.below (hV.trans (hb2.mono hV.size))) dst kind N ao n c);have HZ3:Hid (∀w',Below V.heap.size V w'->w'.heap[w.heap.size]? = some (.cells #[.int .i64 0,.int .i64 0,.int .i64 0,.slice none 0 0,.slice none 0 0] 83 (0,0))):=ab (λw' hb=>bd hb hVs hbx.out);have HVV:Hid (∀w',Below V.heap.size V w'->Below w.heap.size w w'):=ab (λw' hb=>hV.trans (hb.mono hV.size));have HV18:Hid (∀o,Below V.heap.size V (V.drew.alloc o)):=ab (λo=>(ak V 1).alloc (ah _) o);have HFIN:Hid (∀w3 row,Below V.heap.size V w3->Below w.heap.size w (w3.setRow w.heap.size row)):=ab (λw3 row hb=>by
  have hon:=dv w3 w.heap.size row;exact (hV.trans (hb.mono hV.size)).trans (hon.below (hV.trans (hb.mono hV.size)).size (by simp)))
 have HVS:=ab hVs;have HT:Hid (bp s 1 q=da s (q:Int) 1 [s.term,(s.log.length:Int),bJ s.log s.log.length]):=ab rfl;have HWL:Hid ((s.own:Int)=(s.own:Int)):=ab rfl;clear hp hc6 hc8 hV hVs hbw hb hbx;generalize hlt:bJ s.log s.log.length=lt at *;generalize s.log.length=sl at *;generalize s.term=st at *;have HEND:Hid (∀w3 row,Below (V.drew.alloc (.cells #[.int .i64 st,.int .i64 (sl:Int),.int .i64 lt] 2)).heap.size (V.drew.alloc (.cells #[.int .i64 st,.int .i64 (sl:Int),.int .i64 lt] 2)) w3->IsMsg (w3.setRow w.heap.size row) A (da s (q:Int) 1 [st,(sl:Int),lt]) (.slice (some ⟨V.heap.size,0,none⟩) 3 3) (.slice none 0 0)):=ab (λw3 row hb=>by
  have h1:ImmI (V.drew.alloc (.cells #[.int .i64 st,.int .i64 (sl:Int),.int .i64 lt] 2)) A (.slice (some ⟨V.heap.size,0,none⟩) 3 3) [st,(sl:Int),lt]:=ImmI.fresh (w:=V.drew) [st,(sl:Int),lt] _ rfl 2 3 rfl (by omega) (λb hb=>by have:=HWA.out b hb;have:=HVS.out;show b<V.heap.size;omega);refine ⟨(h1.below hb).avoid (dv _ _ _) (λp hp=>?_),.inl ⟨rfl,rfl⟩⟩;cases hp;have:=HVS.out;simp;omega)
 refine wp_region_held_drew (S:=λw'=>Below w.heap.size w w') (by kernel_rfl) (HVV.out _ (ak V 1)) (λam=>?_);refine aB 0 ?_;refine aB 1 ?_;refine aB 2 ?_;refine aB 3 ?_;refine aB 4 ?_;refine aB 5 ?_;refine aB 6 ?_;refine aB 7 ?_;refine aB 8 ?_;refine aB 9 ?_;refine aB 10 ?_;refine aB 11 ?_;refine aB 12 ?_;refine aB 13 ?_;refine aB 14 ?_;refine aB 15 ?_;refine aB 16 ?_;refine cC 17 λK hK=>?_;go_simp
 refine (HLT.out _ (ak V 1)).mono ?_;rintro e wa ⟨rfl,rfl⟩;go_wp2_with fail
 refine hK.out _ _ am (λam=>?_);clear hK K;refine bH ?_;refine cC 18 λK hK=>?_;go_simp
 refine hK.out _ _ (HVV.out _ (HV18.out _)) (λam=>?_);clear hK K;refine bH ?_;refine cC 19 λK hK=>?_;go_simp
 refine (HSAY.out _ (HV18.out _) _ _ [st,(sl:Int),lt] _ _ _).mono ?_;rintro e w3 ⟨rfl,hb3⟩;have HB3:=ab ((HV18.out _).trans (hb3.mono (HV18.out _).size));have HB4:=ab hb3;go_wp2_with fail
 refine hK.out _ _ (HVV.out _ HB3.out) (λam=>?_);clear hK K;refine bH ?_;refine cC 20 λK hK=>?_;have hz3:=HZ3.out _ HB3.out;refine dm rfl λQ' hQ=>?_;refine wpList_store_row rfl 83 (.tmp 3) (.tmp 23) rfl w.heap.size #[.int .i64 (s.own:Int),.int .i64 (q:Int),.int .i64 1,.slice (some ⟨V.heap.size,0,none⟩) 3 3,.slice none 0 0] rfl rfl 83 _ hz3 fS rfl (fH _ _ _ _ _ _ _ _ _) ?_;refine hQ _ _ ?_;clear hQ Q';refine hK.out _ _ (HFIN.out _ _ HB3.out) (λam=>?_);clear hK K;refine bH ?_;refine fI ?_;go_wp2_with fail
 exact bodyPost_ret (results_cell_row (P:=Tryz.prog) (fn:=Tryz.f92) rfl _ _ w.heap.size 83 _ _ _ rfl (setRow_heap _ _ _ _ 83 (0,0) (HZ3.out _ HB3.out)) Tryz.underlying83 rfl fS) rfl ⟨_,_,rfl,by rw [HT.out];exact HEND.out _ _ HB4.out,HFIN.out _ _ HB3.out⟩
end
end Go.Proofs.YtnhefallmioefaaGreat
