/- What the law leans on. No condition. -/
import Derived.Test.YtnhefallmioefaaGreatW0
import Derived.Lib.SliceRun
import Derived.Deep.DeepCutAuto
import Derived.Deep.AppendLies
import Derived.Test.YtnhefallmioefaaGreatW1
import Derived.Test.YtnhefallmioefaaGreatW3
import Derived.Test.YtnhefallmioefaaGreatW2
set_option maxHeartbeats 8000000
set_option linter.unusedVariables false
set_option linter.unusedSimpArgs false
namespace Go.Proofs.YtnhefallmioefaaGreat.F
open Go.Proofs.YtnhefallmioefaaGreat Go.RowKit
theorem oZ (ao:Option Addr) (n c:Nat) (B:List UInt8) (w:World) (h:Pg w ao n c B) (hn:n<=2000000) (Si:n<=c) (Q5:c<=9223372036854775807) :
  Calls Tryz.prog 52 #[.slice ao n c] w λe w'=>∃v,LD v ((di B).2.1:Int) ((di B).2.2:Int) e/\PC w' w.heap.size v (di B).1/\Below w.heap.size w w':=by
 have hlen:=h.len;have HB:=af h;clear h;have HL:=af hlen;clear hlen;have HS:Hid (iP B (B.length - 0) 0 []=di B):=af rfl;go_enter Tryz.func52,Tryz.ntmps52
 go_wp2_with fail
 go_loopw [2,3] (λv i wr=>∃(k:Nat) (ls:List (List UInt8)),k<=n/\ls.length*12<=k/\i = .int .i64 (k:Int)/\iP B (B.length - k) k ls=di B/\PC wr w.heap.size v ls/\Below w.heap.size w wr) (λ_ i _=>n - (intOf i).toNat)
 case atStart=>exact ⟨0,[],by omega,by simp,rfl,HS.out,PC.nil _ _,aG _ _⟩
 case round =>
  clear HS;obtain ⟨k,ls,hk,YL,rfl,hsc,hown,hbl⟩:=hrel;have HSC:=af hsc;clear hsc;have HO:=af hown;clear hown;by_cases hlt:k<n
  ·obtain ⟨b,off,rfl⟩:∃b off,ao=some ⟨b,off,none⟩:=by
    rcases HB.out.at_ with h0 | ⟨b,off,h0,_⟩
    ·omega
    ·exact ⟨b,off,h0⟩
   have hD:Pg wr (some ⟨b,off+k,none⟩) (n - k) (c - k) (B.drop k):=(lj HB.out k (c - k) az).below hbl;have hkc:¬(c=k):=az;have hst:=xM B k ls G6;have hsp:=xL B k ls G6;have hsz:=mS (B.drop k);have Rm:=λw' (hw:Pg w' (some ⟨b,off+k,none⟩) (n - k) (c - k) (B.drop k))=>oe _ _ _ (B.drop k) w' hw az az;generalize eS (B.drop k)=q at hst hsp hsz Rm;obtain ⟨sz,how⟩:=q;simp only at hst hsp hsz Rm;have HST:=af hst;clear hst;have Zi:=af hsp;clear hsp;have HSZ:=af hsz;clear hsz;have Wv:=af Rm;clear Rm;have HD:=af hD;clear hD;go_wp2_with fail
   refine (Wv.out _ HD.out).mono ?_;rintro e w1 ⟨rfl,hb1⟩;have Sx:=hbl.trans (hb1.mono hbl.size);by_cases h0:how=0
   ·subst h0;have hstep:=HST.out rfl;obtain ⟨s1,s2,s3⟩:=HSZ.out rfl;rw [cH,HL.out] at s2;have HF:Hid (iP B (B.length - (k+sz)) (k+sz) (ls++[((B.drop k).take sz).drop 12])=di B):=af (by rw [<-HSC.out,hstep]);have SH:Pg w1 (some ⟨b,off+(k+12),none⟩) (k+sz - (k+12)) (c - (k+12)) (((B.drop k).take sz).drop 12):=by
     have h1:=ot (HD.out.below hb1) sz s2;have h2:=lj h1 12 (c - (k+12)) s1;rw [Nat.add_assoc,show sz - 12=k+sz - (k+12) by omega] at h2;exact h2
    generalize ((B.drop k).take sz).drop 12=rec at SH HF;clear hstep HST Zi HSZ Wv HD HSC;have hO1:=HO.out.below hb1;have Sm:=af hO1;clear hO1 HO;have HR:=af SH;clear SH;by_cases hck:c=k+12
    ·have hsz12:sz=12:=by omega
     have hnk:n=k+12:=az;subst hck hsz12 hnk;have QR:=HR.out.len;obtain rfl:rec=[]:=bP.1 az;have Uq:ls.length+1<=1000000:=az;clear QR HR;go_wp2_with fail
     refine (dV (some ⟨b,off,none⟩) 0 0 [] _ (ri 0) az).mono ?_;rintro e w2 ⟨v2,rfl,hown2,hb2⟩;have Vz:=Sx.trans (hb2.mono Sx.size);have hel0:=hown2.mono Sx.size;obtain ⟨a2,c2,rfl,_⟩:=tY hown2 0 rfl;have Ur:=af (hel0.alloc (.cells #[.slice a2 0 c2] 31));have hO2:=af ((Sm.out.below hb2).below ((aG _ _).alloc (ah _) (.cells #[.slice a2 0 c2] 31)));have hz2:=Vz.size;have O5:=af Vz;go_wp2_with (at_builtin;refine dU rfl _ _ rfl w.heap.size _ ls rfl hO2.out w2.heap.size (.slice a2 0 c2) [] rfl (by rw [World.cell?_alloc_mark];rfl) Ur.out Uq gD ?_;intro a3 c3 w3 P6 hb3 Vi;clear Vi)
     go_roundw
     case rel=>exact ⟨k+12,_,by omega,by simp;omega,by go_num,HF.out,P6,(O5.out.alloc hz2 _).trans hb3⟩
     case measure=>simp [intOf];omega
    ·have QR:=HR.out.len;go_wp2_with fail
     refine (dV _ _ _ rec _ HR.out az).mono ?_;rintro e w2 ⟨v2,rfl,hown2,hb2⟩;have Vz:=Sx.trans (hb2.mono Sx.size);have hel0:=hown2.mono Sx.size;obtain ⟨a2,c2,rfl,_⟩:=tY hown2 _ QR;have Ur:=af (hel0.alloc (.cells #[.slice a2 (k+sz - (k+12)) c2] 31));have hO2:=af ((Sm.out.below hb2).below ((aG _ _).alloc (ah _) (.cells #[.slice a2 (k+sz - (k+12)) c2] 31)));have Uq:ls.length+1<=1000000:=az;have hz2:=Vz.size;have O5:=af Vz;clear hown2 hel0 hb2 Vz hb1 Sx Sm HR QR;go_wp2_with (at_builtin;refine dU rfl _ _ rfl w.heap.size _ ls rfl hO2.out w2.heap.size (.slice a2 (k+sz - (k+12)) c2) rec rfl (by rw [World.cell?_alloc_mark];rfl) Ur.out Uq gD ?_;intro a3 c3 w3 P6 hb3 Vi;clear Vi)
     go_roundw
     case rel=>exact ⟨k+sz,_,by omega,by simp;omega,by go_num,HF.out,P6,(O5.out.alloc hz2 _).trans hb3⟩
     case measure=>simp [intOf];omega
   ·have hstop:=Zi.out h0;have HF:Hid (di B=(ls,k,how)):=af (by rw [<-HSC.out,hstop]);go_wp2_with fail
    go_ret3
    refine ⟨_,by unfold LD;rw [HF.out];rfl,?_,Sx⟩;rw [HF.out];exact HO.out.below hb1
  ·obtain rfl:k=n:=by omega
   have HF:Hid (di B=(ls,k,0)):=af (by rw [<-HSC.out,jR B _ k ls Br]);go_wp2_with fail
   go_ret3
   refine ⟨_,by unfold LD;rw [HF.out];rfl,?_,hbl⟩;rw [HF.out];exact HO.out
end Go.Proofs.YtnhefallmioefaaGreat.F
namespace Go.Proofs.YtnhefallmioefaaGreat
open Go.RowKit Go.ChangeMaps Go.WideMaps Go.Maps
set_option maxRecDepth 20000
def PB (w:World) (A:List Nat) (v:Value) (l:List Int):Prop:=∃ao c,v = .slice ao l.length c/\Uf w ao l.length c l/\l.length<=c/\c<=9223372036854775807/\∀p,ao=some p->p.block∉A/\p.block<w.heap.size
def PV (w:World) (A:List Nat) (v:Value) (ls:List (List UInt8)):Prop :=
 (v = .slice none 0 0/\ls=[])\/∃g c cur,v = .slice (some ⟨g,0,none⟩) ls.length c/\ls.length<=c/\c<=9223372036854775807/\g∉A/\w.heap[g]? = some (.cells cur 31 (0,0))/\∀i,i<ls.length->∃u,cur[i]? = some u/\Qi w A u (ls.getD i [])
theorem sU {w w':World} {S:List Nat} {ao:Option Addr} {n c:Nat} {l:List Int} (h:Uf w ao n c l) (ho:Only S w w') (hS:∀p,ao=some p->p.block∉S):Uf w' ao n c l:=by
 obtain ⟨h1,h2,h3⟩:=h;refine ⟨h1,h2,?_⟩;rcases h3 with h3 | ⟨b,off,h4,h5⟩
 ·exact .inl h3
 ·exact .inr ⟨b,off,h4,λi hi=>ho.cell (h5 i hi) (show b∉S from hS ⟨b,off,none⟩ h4)⟩
theorem PB.step {w w':World} {A A' S:List Nat} {v:Value} {l:List Int} (h:PB w A v l) (ho:Only S w w') (hS:∀b∈S,b∈A) (he:Ext A A' w):PB w' A' v l:=by
 obtain ⟨ao,c,rfl,h1,h2,h9,h3⟩:=h;refine ⟨ao,c,rfl,sU h1 ho (λp hp hm=>(h3 p hp).1 (hS _ hm)),h2,h9,λp hp=>?_⟩;exact Mf
theorem PB.below {w w':World} {A:List Nat} {v:Value} {l:List Int} (h:PB w A v l) (hb:Below w.heap.size w w'):PB w' A v l:=h.step (Only.OL hb []) (λb hb=>by cases hb) (Ext.refl _ _)
theorem PB.avoid {w w':World} {A S:List Nat} {ao:Option Addr} {n c:Nat} {l:List Int} (h:PB w A (.slice ao n c) l) (ho:Only S w w') (hS:∀p,ao=some p->p.block∉S):PB w' A (.slice ao n c) l:=by
 obtain ⟨Wj,c',e,h1,h2,h9,h3⟩:=h;cases e;exact ⟨ao,c,rfl,sU h1 ho hS,h2,h9,λp hp=>⟨(h3 p hp).1,aK (h3 p hp).2 ho.size⟩⟩
theorem PB.fresh {w:World} {A:List Nat} (l:List Int) (vs:Array Value) (hv:vs=(l.map iv).toArray) (t:TypeId) (n:Nat) (hn:l.length=n) (hm:n<=9223372036854775807) (hA:∀b∈A,b<w.heap.size):PB (w.alloc (.cells vs t)) A (.slice (some ⟨w.heap.size,0,none⟩) n n) l:=by
 have h1:=lO w l vs hv t (0,0) w.heap.size rfl n hn n;subst hn;exact ⟨_,_,rfl,h1,ah _,hm,λp hp=>by cases hp;exact ⟨λhm=>by have:=hA _ hm;simp at this,by simp⟩⟩
theorem eo (w:World) (b:Nat) (row:Array Value):Only [b] w (w.setRow b row):=⟨rfl,rfl,rfl,by simp,λk _ hk=>setRow_other _ _ _ _ En⟩
theorem PV.step {w w':World} {A A' S:List Nat} {v:Value} {ls:List (List UInt8)} (h:PV w A v ls) (ho:Only S w w') (hS:∀b∈S,b∈A) (he:Ext A A' w):PV w' A' v ls:=by
 rcases h with ⟨rfl,rfl⟩ | ⟨g,c,cur,rfl,h1,h2,h3,h4,h5⟩
 ·exact .inl ⟨rfl,rfl⟩
 ·refine .inr ⟨g,c,cur,rfl,h1,h2,λhm=>?_,ho.keeps h4 (λhm=>h3 (hS g hm)),λi hi=>?_⟩
  ·exact Jc
  ·obtain ⟨u,k1,k2⟩:=h5 i hi;exact ⟨u,k1,k2.step ho hS he⟩
theorem PV.below {w w':World} {A:List Nat} {v:Value} {ls:List (List UInt8)} (h:PV w A v ls) (hb:Below w.heap.size w w'):PV w' A v ls:=h.step (Only.OL hb []) (λb hb=>by cases hb) (Ext.refl _ _)
theorem OX.caps {w:World} {base:Nat} {e:TypeId} {v:Value} {l:List Int} (h:OX w base e v l):∃ao c,v = .slice ao l.length c/\Uf w ao l.length c l/\l.length<=c/\c<=9223372036854775807/\∀p,ao=some p->base<=p.block/\p.block<w.heap.size:=by
 obtain ⟨ao,c,e1,h1⟩:=h.Xr;rcases h.2 with ⟨h2,h3⟩ | ⟨g,cap,cur,hv,hg,hh,hn,hm,hs,ht⟩
 ·rw [e1] at h2;simp only [Value.slice.injEq] at h2;obtain ⟨rfl,h0,rfl⟩:=h2;exact ⟨none,0,e1,h1,by omega,by omega,(λp hp=>by cases hp)⟩
 ·rw [e1] at hv;cases hv;unfold maxLen at hm;exact ⟨_,_,e1,h1,hn,by omega,λp hp=>by cases hp;exact ⟨hg,bg hh⟩⟩
theorem PB.new {w w':World} {A:List Nat} {e:TypeId} {v:Value} {l:List Int} (h:OX w' w.heap.size e v l) (hA:∀b∈A,b<w.heap.size):PB w' A v l:=by
 obtain ⟨ao,c,rfl,h1,h2,h9,h3⟩:=h.caps;exact ⟨ao,c,rfl,h1,h2,h9,λp hp=>⟨λhm=>by have:=hA _ hm;have:=(h3 p hp).1;omega,(h3 p hp).2⟩⟩
theorem PV.new {w w':World} {A:List Nat} {v:Value} {ls:List (List UInt8)} (h:PC w' w.heap.size v ls) (hA:∀b∈A,b<w.heap.size):PV w' A v ls:=by
 obtain ⟨vs,h1,⟨h9,h2⟩,h3,h4⟩:=h;rcases h2 with ⟨rfl,h0⟩ | ⟨g,cap,cur,rfl,hg,hh,hn,hm,hs,ht⟩
 ·exact .inl ⟨rfl,bP.1 h0⟩
 ·unfold maxLen at hm;refine .inr ⟨g,cap,cur,rfl,hn,by omega,λhm=>by have:=hA _ hm;omega,hh,λi hi=>?_⟩;have hiv:i<vs.length:=az;refine ⟨vs.getD i undef,?_,Qi.new (h4 i hi) hA⟩;have h7:(cur.toList.take (ls.length*1))[i]? = vs[i]? := by rw [ht]
  rw [fz,ay az,ft] at h7;rw [h7];simp [hiv]
def en (m:OM) (v u:Value):Value:=.agg #[.int .i64 m.OD,.int .i64 m.dst,.int .i64 m.kind,v,u]
structure OU (w:World) (A:List Nat) (m:OM) (v u:Value):Prop where
 n:PB w A v m.N
 b:PV w A u m.B
theorem OU.step {w w':World} {A A' S:List Nat} {m:OM} {v u:Value} (h:OU w A m v u) (ho:Only S w w') (hS:∀b∈S,b∈A) (he:Ext A A' w):OU w' A' m v u:=⟨h.n.step ho hS he,h.b.step ho hS he⟩
theorem OU.below {w w':World} {A:List Nat} {m:OM} {v u:Value} (h:OU w A m v u) (hb:Below w.heap.size w w'):OU w' A m v u:=⟨h.n.below hb,h.b.below hb⟩
theorem gP (f t k:Int) (ao:Option Addr) (n c:Nat) (bo:Option Addr) (q d:Nat):(#[Value.int .i64 f,.int .i64 t,.int .i64 k,.slice ao n c,.slice bo q d]).all (·.oneCell')=true:=by
 refine Array.all_eq_true_iff_forall_mem.2 λu hu=>?_;simp only [List.mem_toArray,cA,ki,or_false] at hu;rcases hu with rfl | rfl | rfl | rfl | rfl<;>rfl
theorem hC:(Tryz.prog.info? 83).map (·.size)=some 5:=dW
section
variable {w w':World} {A A' X X':List Nat} {r d l:Nat} {s s':Rp} {k k':Dk}
theorem lK (h:Nd w A X r d l s k) (dst kind:Int) (N:List Int) (ao:Option Addr) (n c:Nat):Calls Tryz.prog 67 #[.pointer (some ⟨r,0,none⟩),.int .i64 dst,.int .i64 kind,.slice ao n c] w λe w'=>e = .returned (en (dQ s dst kind N) (.slice ao n c) (.slice none 0 0))/\Below w.heap.size w w':=by
 obtain ⟨vl,gv,gn,gm,gh,hcell⟩:=h.cells;have hlt:=bg hcell;have hc0:(w.alloc (.cells #[.int .i64 0,.int .i64 0,.int .i64 0,.slice none 0 0,.slice none 0 0] 83)).cell? ⟨r,0,none⟩=some (.int .i64 (s.own:Int)):=by
  rw [ap (bD hcell _)];rfl
 clear hcell h;go_enter Tryz.func67,Tryz.ntmps67
 go_wp2_with fail
 exact bodyPost_ret (results_cell_row (P:=Tryz.prog) (fn:=Tryz.f67) rfl _ _ w.heap.size 83 _ _ _ rfl (aV _ _) Tryz.underlying83 rfl hC) rfl ⟨rfl,(aG _ _).alloc (ah _) _⟩
end
theorem La:(Tryz.prog.info? 2).map (λi=>(i.zero,i.size,i.bytes))=some (some (.int .i64 0),1,8):=dW
theorem yR (ao:Option Addr) (n c:Nat) (l:List Int) (w:World) (h:Uf w ao n c l) (hn:n<=1000000) :
  Calls Tryz.prog 75 #[.slice ao n c] w λe w'=>∃v,e = .returned v/\OX w' w.heap.size 2 v l/\Below w.heap.size w w':=by
 have q81:∀(w:World) (a:Option Addr) (n c n' c':Nat),(binOp .eql 81 (.slice a n c) (.slice none n' c')).run Tryz.prog w = .ok (.bool a.isNone) w:=λw a n c n' c'=>Lib.run_eql_slice_nil w _ _ a n c n' c' Tryz.underlying81;have HI:=af h;cases ao with
 | none =>
  obtain ⟨rfl,rfl⟩:=h.nil rfl;obtain rfl:l=[]:=bP.1 h.len;go_enter Tryz.func75,Tryz.ntmps75
  go_wp2_with fail
  go_ret
  exact ⟨_,rfl,OX.nil _ _ _,aG _ _⟩
 | some p =>
  have hl:=h.len;go_enter Tryz.func75,Tryz.ntmps75
  go_wp2_with (at_builtin;go_loud (refine ja rfl _ _ 81 rfl w.heap.size 2 Tryz.underlying81 La _ [] rfl (OX.new w w.heap.size 2 [] #[] rfl w.heap.size rfl (ah _) 0 rfl dZ) _ _ _ l rfl (HI.out.alloc _) gD bL ?_;intro v3 w3 P6 Vi hb3;obtain ⟨Zb,c3,rfl,_⟩:=OX.Xr P6;have Pk:=af hb3;have HW:=af P6;clear Vi hb3 P6))
  go_ret
  exact ⟨_,rfl,by rw [<-hl];simpa using HW.out,((aG _ _).alloc (ah _) _).trans Pk.out⟩
structure UM (w:World) (base:Nat) (m:OM) (v u:Value):Prop where
 N:OX w base 2 v m.N
 B:PC w base u m.B
theorem UM.only {w w':World} {base:Nat} {m:OM} {v u:Value} (h:UM w base m v u) {S:List Nat} (ho:Only S w w') (hs:∀j∈S,∀cur,w.heap[j]? ≠ some (.cells cur 2 (0,0))/\w.heap[j]? ≠ some (.cells cur 31 (0,0))/\w.heap[j]? ≠ some (.cells cur 5 (0,0))):UM w' base m v u :=
 ⟨fk h.N ho (λj hj cur=>(hs j hj cur).1),h.B.only ho (λj hj cur=>(hs j hj cur).2)⟩
theorem UM.mono {w:World} {base base':Nat} {m:OM} {v u:Value} (h:UM w base m v u) (hb:base'<=base):UM w base' m v u:=⟨h.N.mono hb,h.B.mono hb⟩
structure IsM (w:World) (m:OM) (v u:Value):Prop where
 N:∃ao c,v = .slice ao m.N.length c/\Uf w ao m.N.length c m.N
 B:∃bo c,u = .slice bo m.B.length c/\IsBB w bo m.B.length m.B
def jt (m:OM):Prop:=m.N.length<=1000000/\m.B.length<=100000/\∀l∈m.B,l.length<=70368744177664
def FC (m:OM) (v u:Value):Array Value:=#[.int .i64 m.OD,.int .i64 m.dst,.int .i64 m.kind,v,u]
def LA (m:OM) (v u:Value):Value:=.agg (FC m v u)
theorem wU (m:OM) (v u:Value) (w:World) (h:IsM w m v u) (hm:jt m) :
  Calls Tryz.prog 43 #[LA m v u] w λe w'=>∃v' u',e = .returned (LA m v' u')/\UM w' w.heap.size m v' u'/\Below w.heap.size w w':=by
 obtain ⟨⟨ao,c,rfl,hns⟩,⟨bo,c2,rfl,Yc⟩⟩:=h;have HI:=af hns;have Vp:=af Yc;have HLM:=af hm;have hb9:=hm.2.1;have WQ:=hm.1;clear hns Yc hm;cases m with
 | mk f t k ns bs =>
 simp only [LA,FC] at *;go_enter Tryz.func43,Tryz.ntmps43
 go_wp2_with fail
 have P0:Below w.heap.size w ((w.alloc (.cells #[.int .i64 f,.int .i64 t,.int .i64 k,.slice ao ns.length c,.slice bo bs.length c2] 83)).alloc (.cells #[.int .i64 0,.int .i64 0,.int .i64 0,.slice none 0 0,.slice none 0 0] 83)):=((aG _ _).alloc (ah _) _).alloc bL _;refine (yR ao ns.length c ns _ (HI.out.below P0) WQ).mono ?_;rintro e w1 ⟨v1,rfl,hown,hb⟩;have hb':=P0.trans (hb.mono P0.size);have h0:=bA hb (j:=w.heap.size) gD (bD (aV w (.cells #[.int .i64 f,.int .i64 t,.int .i64 k,.slice ao ns.length c,.slice bo bs.length c2] 83)) (.cells #[.int .i64 0,.int .i64 0,.int .i64 0,.slice none 0 0,.slice none 0 0] 83));have h1:=bA hb (j:=w.heap.size+1) bL (by have:=aV (w.alloc (.cells #[.int .i64 f,.int .i64 t,.int .i64 k,.slice ao ns.length c,.slice bo bs.length c2] 83)) (.cells #[.int .i64 0,.int .i64 0,.int .i64 0,.slice none 0 0,.slice none 0 0] 83);simpa using this);have hown':=hown.mono (show w.heap.size+2<=_ by simp);obtain ⟨a1,c1,rfl,_⟩:=hown'.Xr;have hsz1:w.heap.size+2<=w1.heap.size:=by have:=hb.size;simp at this;omega
 have HO:=af hown';have HB:=af hb';clear hb hb' hown hown' P0;generalize hH:w.heap.size=H at *;have HH:=af hH;clear hH;have hc3:w1.cell? ⟨H,3,none⟩=some (.slice ao ns.length c):=by rw [ap h0];rfl
 have Vl:w1.cell? ⟨H,4,none⟩=some (.slice bo bs.length c2):=by rw [ap h0];rfl
 have hf3:=aU h0 3;have K0:=af (be h0 3 (.slice a1 ns.length c1));have o1:Only [H] w1 (w1.setCell ⟨H,3,none⟩ (.slice a1 ns.length c1)):=(Only.refl _ _).setCell bL _;have K1:=af (o1.keeps h1 bL);have HOX:=af (fk HO.out o1 (λj hj cur=>by obtain rfl:=aj.1 hj;rw [h0];simp));have O5:=af (HB.out.trans (o1.below (by rw [<-HH.out];exact HB.out.size) bL));have hsz2:H+2<=(w1.setCell ⟨H,3,none⟩ (.slice a1 ns.length c1)).heap.size:=aF hsz1 o1.size;clear h0 h1 o1;go_upto_region 2 with (fail)
 generalize (w1.setCell ⟨H,3,none⟩ (.slice a1 ns.length c1))=w2 at *;have hc42:w2.cell? ⟨H,4,none⟩=some (.slice bo bs.length c2):=by rw [ap K0.out];rfl
 have hf42:=aU K0.out 4;clear hc3 Vl hf3;have hbl0:Below (H+2) w2 w2:=aG _ _;have HOX2:OX w2 (H+2) 2 (.slice a1 ns.length c1) ns:=HOX.out;have hnil:PC w2 (H+2) (.slice none 0 0) []:=PC.nil _ _;have HN:=af hnil;have HOX3:=af HOX2;generalize Un:bs.length=nb at *;have Vn:=af Un;clear HOX2 hnil HOX Un;go_wp2_with fail
 go_loopw [3,13] (λv i wr=>∃j:Nat,j<=nb/\i = .int .i64 (j:Int)/\∃Wj c',v = .slice Wj j c'/\PC wr (H+2) v (bs.take j)/\OX wr (H+2) 2 (.slice a1 ns.length c1) ns/\Below (H+2) w2 wr) (λ_ i _=>nb - (intOf i).toNat)
 case atStart=>exact ⟨0,by omega,rfl,none,0,rfl,HN.out,HOX3.out,hbl0⟩
 case round =>
  obtain ⟨j,hj,rfl,vo,vc,rfl,hol,hoi,hbl⟩:=hrel;have HOL:=af hol;have HOI:=af hoi;have Q0:=af hbl;have hszr:H+2<=wr.heap.size:=aF hsz2 hbl.size;clear hol hoi hbl hbl0;have hbW:Below H w wr:=O5.out.trans (Q0.out.mono az);by_cases hlt:j<nb
  ·obtain ⟨b,off,rfl,Ur⟩:∃b off,bo=some ⟨b,off,none⟩/\∃a m c,w.cell? ⟨b,off+j,none⟩=some (.slice a m c)/\Pg w a m c (bs.getD j [])/\m<=140737488351232:=by
    rcases Vp.out.at_ with h0 | ⟨b,off,h1,h2⟩
    ·omega
    ·exact ⟨b,off,h1,h2 j hlt⟩
   obtain ⟨ea,em,ec,he1,he2,he3⟩:=Ur;have hce:=cell_later (show Below w.heap.size w wr from HH.out ▸ hbW) he1;have Wz:=af (he2.below (show Below w.heap.size w wr from HH.out ▸ hbW));have Wq:Hid (bs.take (j+1)=bs.take j++[bs.getD j []]):=af (by
    rw [gU (by rw [Vn.out];exact hlt)];simp [show j<bs.length by rw [Vn.out];exact hlt])
   have HTL:Hid ((bs.take j).length=j):=af (by rw [aQ,Vn.out];omega);have Yo:Hid ((bs.getD j []).length<=70368744177664):=af (HLM.out.2.2 _ (by
    rw [aL,cf (show j<bs.length by rw [Vn.out];exact hlt)];exact cW _))
   generalize bs.getD j []=el at *;go_wp2_with fail
   refine (F.dV ea em ec el wr Wz.out (by have h9:=Wz.out.1;have:=Yo.out;omega)).mono ?_;rintro e w5 ⟨v5,rfl,PS,PA⟩;obtain ⟨a5,c5,rfl,_⟩:=PS.S9;have RJ:=af (PS.mono hszr);have Q6:=af PA;have VN:H+2<=w5.heap.size:=aF hszr PA.size;go_wp2_with (at_builtin;refine dU rfl _ _ rfl (H+2) (.slice vo j vc) (bs.take j) rfl ((HOL.out.below Q6.out).below ((aG _ _).alloc (ah _) _)) w5.heap.size _ el rfl vP (RJ.out.alloc _) (by rw [HTL.out];omega) gD ?_;intro a6 c6 w6 Ta SE hg6;rw [HTL.out] at Ta ⊢;have HO6:=af Ta;have TQ:=af SE;have HI6:=af (by obtain ⟨vs,_,hr,_⟩:=(HOL.out.below Q6.out).below ((aG _ _).alloc (ah _) (.cells #[.slice a5 el.length c5] 31));exact mC ((HOI.out.below Q6.out).below ((aG _ _).alloc (ah _) (.cells #[.slice a5 el.length c5] 31))) hr dZ hg6);clear Ta SE hg6)
   go_roundw
   case rel=>exact ⟨j+1,by omega,by go_num,a6,c6,rfl,by rw [Wq.out];exact HO6.out,HI6.out,Q0.out.trans (((Q6.out.mono hszr).alloc VN _).trans TQ.out)⟩
   case measure=>simp [intOf];omega
  ·obtain rfl:j=nb:=by omega
   have hol:=HOL.out;rw [bE (by rw [Vn.out];omega)] at hol;have Wu:=af hol;have hx0:=(Q0.out.block H az).trans K0.out;have hx1:=(Q0.out.block (H+1) az).trans ((show w2.heap[H+1]? = _ from K1.out));have Vl:wr.cell? ⟨H,4,none⟩=some (.slice bo j c2):=by rw [ap hx0];rfl
   have hf4:wr.frozen? ⟨H,4,none⟩=false:=aU hx0 4;have oA:Only [H] wr (wr.setCell ⟨H,4,none⟩ (.slice vo j vc)):=(Only.refl _ _).setCell bL _;have hx0':(wr.setCell ⟨H,4,none⟩ (.slice vo j vc)).heap[H]? = some (.cells #[.int .i64 f,.int .i64 t,.int .i64 k,.slice a1 ns.length c1,.slice vo j vc] 83 (0,0)):=be hx0 4 _;have hx1':=oA.keeps hx1 bL;have HA:=af oA;have HX0:=af hx0';have HX1:=af hx1';have HNT:Hid (∀j∈[H],∀cur,wr.heap[j]? ≠ some (.cells cur 2 (0,0))/\wr.heap[j]? ≠ some (.cells cur 31 (0,0))/\wr.heap[j]? ≠ some (.cells cur 5 (0,0))):=af (by
    intro q hq cur;obtain rfl:=aj.1 hq;rw [hx0];simp)
   clear oA hx0 hx1 hx0' hx1' hol hc42 hf42 hbW;go_upto_region 9 with (fail)
   clear Vl hf4;have VE:Hid (UM (wr.setCell ⟨H,4,none⟩ (.slice vo j vc)) (H+2) ⟨f,t,k,ns,bs⟩ (.slice a1 ns.length c1) (.slice vo j vc)):=af (UM.only ⟨HOI.out,Wu.out⟩ HA.out HNT.out);have hbA:Below H w (wr.setCell ⟨H,4,none⟩ (.slice vo j vc)):=(O5.out.trans (Q0.out.mono az)).trans (HA.out.below az bL);have HBA:=af hbA;clear hbA;generalize (wr.setCell ⟨H,4,none⟩ (.slice vo j vc))=wa at *;go_wp2_with (first
    | (refine wpList_load_row rfl 83 (.tmp 1) rfl H rfl 83 #[.int .i64 f,.int .i64 t,.int .i64 k,.slice a1 ns.length c1,.slice vo j vc] (0,0) _ HX0.out Tryz.underlying83 rfl hC ?_)
    | (refine wpList_store_row rfl 83 (.tmp 2) (.tmp 25) rfl (H+1) #[.int .i64 f,.int .i64 t,.int .i64 k,.slice a1 ns.length c1,.slice vo j vc] rfl rfl 83 _ HX1.out hC rfl (gP _ _ _ _ _ _ _ _ _) ?_))
   have HHP:=af (setRow_heap _ (H+1) _ #[.int .i64 f,.int .i64 t,.int .i64 k,.slice a1 ns.length c1,.slice vo j vc] 83 (0,0) HX1.out);have P8:Only [H+1] wa (wa.setRow (H+1) #[.int .i64 f,.int .i64 t,.int .i64 k,.slice a1 ns.length c1,.slice vo j vc]):=⟨rfl,rfl,rfl,by simp,λk _ hk=>setRow_other _ _ _ _ En⟩
   (try simp only [Exit.inBlock,Exit.then])
   refine bodyPost_ret (results_cell_row (P:=Tryz.prog) (fn:=Tryz.f43) rfl _ _ (H+1) 83 _ (0,0) _ rfl HHP.out Tryz.underlying83 rfl hC) rfl ?_;rw [HH.out];refine ⟨_,_,rfl,(VE.out.only P8 ?_).mono az,HBA.out.trans (P8.below (by have:=HBA.out.size;rw [HH.out] at this;exact this) bL)⟩;intro q hq cur;obtain rfl:=aj.1 hq;rw [HX1.out];simp
theorem PV.isBB {w:World} {A:List Nat} {u:Value} {ls:List (List UInt8)} (h:PV w A u ls) (hl:∀l∈ls,l.length<=140737488351232):∃bo c,u = .slice bo ls.length c/\IsBB w bo ls.length ls:=by
 rcases h with ⟨rfl,rfl⟩ | ⟨g,c,cur,rfl,h1,h2,h3,h4,h5⟩
 ·exact ⟨none,0,rfl,⟨rfl,.inl rfl⟩⟩
 ·refine ⟨_,c,rfl,⟨rfl,.inr ⟨g,0,rfl,λi hi=>?_⟩⟩⟩;obtain ⟨x,k1,ao,cc,rfl,k2,_⟩:=h5 i hi;refine ⟨ao,(ls.getD i []).length,cc,?_,k2,hl _ ?_⟩
  ·rw [cB,ap h4];exact k1
  ·grind
theorem ng {A:List Nat} (m:OM) (v u:Value) (w:World) (h:OU w A m v u) (hl:jt m) (hA:∀b∈A,b<w.heap.size) :
  Calls Tryz.prog 43 #[en m v u] w λe w'=>∃v' u',e = .returned (en m v' u')/\OU w' A m v' u'/\Below w.heap.size w w':=by
 have hm:IsM w m v u:=by
  obtain ⟨ao,c,h1,h2,_⟩:=h.n;exact ⟨⟨ao,c,h1,h2⟩,h.b.isBB (λl hl2=>aF (hl.2.2 l hl2) dZ)⟩
 refine (wU m v u w hm hl).mono ?_;rintro e w' ⟨v',u',rfl,ho,hb⟩;exact ⟨v',u',rfl,⟨PB.new ho.N hA,PV.new ho.B hA⟩,hb⟩
section
variable {w w':World} {A A' X X':List Nat} {r d l:Nat} {s s':Rp} {k k':Dk}
theorem Aq (h:Nd w A X r d l s k) (hb:s.Oz.length<=1000000) (p q:Nat) (hp:w.cell? ⟨p,0,none⟩=some (.pointer (some ⟨r,0,none⟩))):Calls Tryz.prog 66 #[.int .i64 (q:Int),.pointer (some ⟨p,0,none⟩)] w λe w'=>∃v u,e = .returned (en (br s 5 q) v u)/\OU w' A (br s 5 q) v u/\Below w.heap.size w w':=by
 have Ux:=af h.alt;obtain ⟨al,cl,Rq,PH,hl2⟩:=h.Qd;obtain ⟨vl,gv,gn,gm,gh,hcell⟩:=h.cells;have Re:w.cell? ⟨r,6,none⟩=some (.int .i64 s.Ow):=iI;have Pe:∀o,Below w.heap.size w (w.alloc o):=λo=>(aG _ _).alloc (ah _) _;have HN:=af h;clear h hcell;go_enter Tryz.func66,Tryz.ntmps66
 go_upto_region 1 with (fail)
 have P0:=af (aV w (.cells #[.int .i64 0,.int .i64 0,.int .i64 0,.slice none 0 0,.slice none 0 0] 83));have hV:=Pe (.cells #[.int .i64 0,.int .i64 0,.int .i64 0,.slice none 0 0,.slice none 0 0] 83);have hVs:w.heap.size<(w.alloc (.cells #[.int .i64 0,.int .i64 0,.int .i64 0,.slice none 0 0,.slice none 0 0] 83)).heap.size:=bL;generalize w.alloc (.cells #[.int .i64 0,.int .i64 0,.int .i64 0,.slice none 0 0,.slice none 0 0] 83)=V at *;have c1:∀w',Below w.heap.size w w'->w'.cell? ⟨p,0,none⟩=some (.pointer (some ⟨r,0,none⟩)):=λw' hb=>cell_later hb hp;have c6:∀w',Below w.heap.size w w'->w'.cell? ⟨r,6,none⟩=some (.int .i64 s.Ow):=λw' hb=>cell_later hb Re;have c8:∀w',Below w.heap.size w w'->w'.cell? ⟨r,8,none⟩=some (.slice al s.Oz.length cl):=λw' hb=>cell_later hb Rq;have Ty:Hid (∀w',Below V.heap.size V w'->Calls Tryz.prog 68 #[.pointer (some ⟨r,0,none⟩),.int .i64 (s.Oz.length:Int)] w' λe w2=>e = .returned (.int .i64 (bV s.Oz s.Oz.length))/\w'=w2):=af (λw' hb2=>gg (HN.out.below (hV.trans (hb2.mono hV.size))) _ (ah _) hb);have Rv:Hid (∀w',Below V.heap.size V w'->∀dst kind N ao n c,Calls Tryz.prog 67 #[.pointer (some ⟨r,0,none⟩),.int .i64 dst,.int .i64 kind,.slice ao n c] w' λe w2=>e = .returned (en (dQ s dst kind N) (.slice ao n c) (.slice none 0 0))/\Below w'.heap.size w' w2):=af (λw' hb2 dst kind N ao n c=>lK (HN.out.below (hV.trans (hb2.mono hV.size))) dst kind N ao n c);have HZ3:Hid (∀w',Below V.heap.size V w'->w'.heap[w.heap.size]? = some (.cells #[.int .i64 0,.int .i64 0,.int .i64 0,.slice none 0 0,.slice none 0 0] 83 (0,0))):=af (λw' hb=>bA hb hVs P0.out);have Tj:Hid (∀w',Below V.heap.size V w'->Below w.heap.size w w'):=af (λw' hb=>hV.trans (hb.mono hV.size));have UN:Hid (∀o,Below V.heap.size V (V.drew.alloc o)):=af (λo=>(aB V 1).alloc (ah _) o);have P7:Hid (∀w3 row,Below V.heap.size V w3->Below w.heap.size w (w3.setRow w.heap.size row)):=af (λw3 row hb=>by
  have P8:=eo w3 w.heap.size row;exact (hV.trans (hb.mono hV.size)).trans (P8.below (hV.trans (hb.mono hV.size)).size bL))
 have HVS:=af hVs;have HT:Hid (br s 5 q=dQ s (q:Int) 5 [s.Ow,(s.Oz.length:Int),bV s.Oz s.Oz.length]):=af rfl;have HWL:Hid ((s.own:Int)=(s.own:Int)):=af rfl;clear hp Re Rq hV hVs Pe hb P0;generalize hlt:bV s.Oz s.Oz.length=lt at *;generalize s.Oz.length=sl at *;generalize s.Ow=st at *;have XR:Hid (∀w3 row,Below (V.drew.alloc (.cells #[.int .i64 st,.int .i64 (sl:Int),.int .i64 lt] 2)).heap.size (V.drew.alloc (.cells #[.int .i64 st,.int .i64 (sl:Int),.int .i64 lt] 2)) w3->OU (w3.setRow w.heap.size row) A (dQ s (q:Int) 5 [st,(sl:Int),lt]) (.slice (some ⟨V.heap.size,0,none⟩) 3 3) (.slice none 0 0)):=af (λw3 row hb=>by
  have h1:PB (V.drew.alloc (.cells #[.int .i64 st,.int .i64 (sl:Int),.int .i64 lt] 2)) A (.slice (some ⟨V.heap.size,0,none⟩) 3 3) [st,(sl:Int),lt]:=PB.fresh (w:=V.drew) [st,(sl:Int),lt] _ rfl 2 3 rfl az (λb hb=>by have:=Ux.out b hb;have:=HVS.out;show b<V.heap.size;omega);refine ⟨(h1.below hb).avoid (eo _ _ _) (λp hp=>?_),.inl ⟨rfl,rfl⟩⟩;cases hp;have:=HVS.out;simp;omega)
 refine wp_region_held_drew (S:=λw'=>Below w.heap.size w w') dW (Tj.out _ (aB V 1)) (λaD=>?_);refine aJ 0 ?_;refine aJ 1 ?_;refine aJ 2 ?_;refine aJ 3 ?_;refine aJ 4 ?_;refine aJ 5 ?_;refine aJ 6 ?_;refine aJ 7 ?_;refine aJ 8 ?_;refine aJ 9 ?_;refine aJ 10 ?_;refine aJ 11 ?_;refine aJ 12 ?_;refine aJ 13 ?_;refine aJ 14 ?_;refine aJ 15 ?_;refine aJ 16 ?_;refine dh 17 λK hK=>?_;go_simp
 refine (Ty.out _ (aB V 1)).mono ?_;rintro e wa ⟨rfl,rfl⟩;go_wp2_with fail
 refine hK.out _ _ aD (λaD=>?_);clear hK K;refine bX ?_;refine dh 18 λK hK=>?_;go_simp
 refine hK.out _ _ (Tj.out _ (UN.out _)) (λaD=>?_);clear hK K;refine bX ?_;refine dh 19 λK hK=>?_;go_simp
 refine (Rv.out _ (UN.out _) _ _ [st,(sl:Int),lt] _ _ _).mono ?_;rintro e w3 ⟨rfl,hb3⟩;have Pk:=af ((UN.out _).trans (hb3.mono (UN.out _).size));have TA:=af hb3;go_wp2_with fail
 refine hK.out _ _ (Tj.out _ Pk.out) (λaD=>?_);clear hK K;refine bX ?_;refine dh 20 λK hK=>?_;have hz3:=HZ3.out _ Pk.out;refine d8 rfl λQ' hQ=>?_;refine wpList_store_row rfl 83 (.tmp 3) (.tmp 23) rfl w.heap.size #[.int .i64 (s.own:Int),.int .i64 (q:Int),.int .i64 5,.slice (some ⟨V.heap.size,0,none⟩) 3 3,.slice none 0 0] rfl rfl 83 _ hz3 hC rfl (gP _ _ _ _ _ _ _ _ _) ?_;refine hQ _ _ ?_;clear hQ Q';refine hK.out _ _ (P7.out _ _ Pk.out) (λaD=>?_);clear hK K;refine bX ?_;refine iX ?_;go_wp2_with fail
 exact bodyPost_ret (results_cell_row (P:=Tryz.prog) (fn:=Tryz.f66) rfl _ _ w.heap.size 83 _ _ _ rfl (setRow_heap _ _ _ _ 83 (0,0) (HZ3.out _ Pk.out)) Tryz.underlying83 rfl hC) rfl ⟨_,_,rfl,by rw [HT.out];exact XR.out _ _ TA.out,P7.out _ _ Pk.out⟩
theorem xH (h:Nd w A X r d l s k) (hb:s.Oz.length<=1000000) (p q:Nat) (hp:w.cell? ⟨p,0,none⟩=some (.pointer (some ⟨r,0,none⟩))):Calls Tryz.prog 92 #[.int .i64 (q:Int),.pointer (some ⟨p,0,none⟩)] w λe w'=>∃v u,e = .returned (en (br s 1 q) v u)/\OU w' A (br s 1 q) v u/\Below w.heap.size w w':=by
 have Ux:=af h.alt;obtain ⟨al,cl,Rq,PH,hl2⟩:=h.Qd;obtain ⟨vl,gv,gn,gm,gh,hcell⟩:=h.cells;have Re:w.cell? ⟨r,6,none⟩=some (.int .i64 s.Ow):=iI;have Pe:∀o,Below w.heap.size w (w.alloc o):=λo=>(aG _ _).alloc (ah _) _;have HN:=af h;clear h hcell;go_enter Tryz.func92,Tryz.ntmps92
 go_upto_region 1 with (fail)
 have P0:=af (aV w (.cells #[.int .i64 0,.int .i64 0,.int .i64 0,.slice none 0 0,.slice none 0 0] 83));have hV:=Pe (.cells #[.int .i64 0,.int .i64 0,.int .i64 0,.slice none 0 0,.slice none 0 0] 83);have hVs:w.heap.size<(w.alloc (.cells #[.int .i64 0,.int .i64 0,.int .i64 0,.slice none 0 0,.slice none 0 0] 83)).heap.size:=bL;generalize w.alloc (.cells #[.int .i64 0,.int .i64 0,.int .i64 0,.slice none 0 0,.slice none 0 0] 83)=V at *;have c1:∀w',Below w.heap.size w w'->w'.cell? ⟨p,0,none⟩=some (.pointer (some ⟨r,0,none⟩)):=λw' hb=>cell_later hb hp;have c6:∀w',Below w.heap.size w w'->w'.cell? ⟨r,6,none⟩=some (.int .i64 s.Ow):=λw' hb=>cell_later hb Re;have c8:∀w',Below w.heap.size w w'->w'.cell? ⟨r,8,none⟩=some (.slice al s.Oz.length cl):=λw' hb=>cell_later hb Rq;have Ty:Hid (∀w',Below V.heap.size V w'->Calls Tryz.prog 68 #[.pointer (some ⟨r,0,none⟩),.int .i64 (s.Oz.length:Int)] w' λe w2=>e = .returned (.int .i64 (bV s.Oz s.Oz.length))/\w'=w2):=af (λw' hb2=>gg (HN.out.below (hV.trans (hb2.mono hV.size))) _ (ah _) hb);have Rv:Hid (∀w',Below V.heap.size V w'->∀dst kind N ao n c,Calls Tryz.prog 67 #[.pointer (some ⟨r,0,none⟩),.int .i64 dst,.int .i64 kind,.slice ao n c] w' λe w2=>e = .returned (en (dQ s dst kind N) (.slice ao n c) (.slice none 0 0))/\Below w'.heap.size w' w2):=af (λw' hb2 dst kind N ao n c=>lK (HN.out.below (hV.trans (hb2.mono hV.size))) dst kind N ao n c);have HZ3:Hid (∀w',Below V.heap.size V w'->w'.heap[w.heap.size]? = some (.cells #[.int .i64 0,.int .i64 0,.int .i64 0,.slice none 0 0,.slice none 0 0] 83 (0,0))):=af (λw' hb=>bA hb hVs P0.out);have Tj:Hid (∀w',Below V.heap.size V w'->Below w.heap.size w w'):=af (λw' hb=>hV.trans (hb.mono hV.size));have UN:Hid (∀o,Below V.heap.size V (V.drew.alloc o)):=af (λo=>(aB V 1).alloc (ah _) o);have P7:Hid (∀w3 row,Below V.heap.size V w3->Below w.heap.size w (w3.setRow w.heap.size row)):=af (λw3 row hb=>by
  have P8:=eo w3 w.heap.size row;exact (hV.trans (hb.mono hV.size)).trans (P8.below (hV.trans (hb.mono hV.size)).size bL))
 have HVS:=af hVs;have HT:Hid (br s 1 q=dQ s (q:Int) 1 [s.Ow,(s.Oz.length:Int),bV s.Oz s.Oz.length]):=af rfl;have HWL:Hid ((s.own:Int)=(s.own:Int)):=af rfl;clear hp Re Rq hV hVs Pe hb P0;generalize hlt:bV s.Oz s.Oz.length=lt at *;generalize s.Oz.length=sl at *;generalize s.Ow=st at *;have XR:Hid (∀w3 row,Below (V.drew.alloc (.cells #[.int .i64 st,.int .i64 (sl:Int),.int .i64 lt] 2)).heap.size (V.drew.alloc (.cells #[.int .i64 st,.int .i64 (sl:Int),.int .i64 lt] 2)) w3->OU (w3.setRow w.heap.size row) A (dQ s (q:Int) 1 [st,(sl:Int),lt]) (.slice (some ⟨V.heap.size,0,none⟩) 3 3) (.slice none 0 0)):=af (λw3 row hb=>by
  have h1:PB (V.drew.alloc (.cells #[.int .i64 st,.int .i64 (sl:Int),.int .i64 lt] 2)) A (.slice (some ⟨V.heap.size,0,none⟩) 3 3) [st,(sl:Int),lt]:=PB.fresh (w:=V.drew) [st,(sl:Int),lt] _ rfl 2 3 rfl az (λb hb=>by have:=Ux.out b hb;have:=HVS.out;show b<V.heap.size;omega);refine ⟨(h1.below hb).avoid (eo _ _ _) (λp hp=>?_),.inl ⟨rfl,rfl⟩⟩;cases hp;have:=HVS.out;simp;omega)
 refine wp_region_held_drew (S:=λw'=>Below w.heap.size w w') dW (Tj.out _ (aB V 1)) (λaD=>?_);refine aJ 0 ?_;refine aJ 1 ?_;refine aJ 2 ?_;refine aJ 3 ?_;refine aJ 4 ?_;refine aJ 5 ?_;refine aJ 6 ?_;refine aJ 7 ?_;refine aJ 8 ?_;refine aJ 9 ?_;refine aJ 10 ?_;refine aJ 11 ?_;refine aJ 12 ?_;refine aJ 13 ?_;refine aJ 14 ?_;refine aJ 15 ?_;refine aJ 16 ?_;refine dh 17 λK hK=>?_;go_simp
 refine (Ty.out _ (aB V 1)).mono ?_;rintro e wa ⟨rfl,rfl⟩;go_wp2_with fail
 refine hK.out _ _ aD (λaD=>?_);clear hK K;refine bX ?_;refine dh 18 λK hK=>?_;go_simp
 refine hK.out _ _ (Tj.out _ (UN.out _)) (λaD=>?_);clear hK K;refine bX ?_;refine dh 19 λK hK=>?_;go_simp
 refine (Rv.out _ (UN.out _) _ _ [st,(sl:Int),lt] _ _ _).mono ?_;rintro e w3 ⟨rfl,hb3⟩;have Pk:=af ((UN.out _).trans (hb3.mono (UN.out _).size));have TA:=af hb3;go_wp2_with fail
 refine hK.out _ _ (Tj.out _ Pk.out) (λaD=>?_);clear hK K;refine bX ?_;refine dh 20 λK hK=>?_;have hz3:=HZ3.out _ Pk.out;refine d8 rfl λQ' hQ=>?_;refine wpList_store_row rfl 83 (.tmp 3) (.tmp 23) rfl w.heap.size #[.int .i64 (s.own:Int),.int .i64 (q:Int),.int .i64 1,.slice (some ⟨V.heap.size,0,none⟩) 3 3,.slice none 0 0] rfl rfl 83 _ hz3 hC rfl (gP _ _ _ _ _ _ _ _ _) ?_;refine hQ _ _ ?_;clear hQ Q';refine hK.out _ _ (P7.out _ _ Pk.out) (λaD=>?_);clear hK K;refine bX ?_;refine iX ?_;go_wp2_with fail
 exact bodyPost_ret (results_cell_row (P:=Tryz.prog) (fn:=Tryz.f92) rfl _ _ w.heap.size 83 _ _ _ rfl (setRow_heap _ _ _ _ 83 (0,0) (HZ3.out _ Pk.out)) Tryz.underlying83 rfl hC) rfl ⟨_,_,rfl,by rw [HT.out];exact XR.out _ _ TA.out,P7.out _ _ Pk.out⟩
end
theorem CH {p:Prop} (h:p:=by
 refine dh 14 λK hK=>?_;go_simp
 have hb2:=PK.out.alloc PK.out.size (.cells #[.int .i64 st,.int .i64 (f:Int),.int .i64 lt,.int .i64 ag] 2);refine hK.out _ _ (Tj.out _ hb2) (λaD=>?_);clear hK K;refine bX ?_;have O5:=af hb2;have QL:Hid (OX (W1.alloc (.cells #[.int .i64 st,.int .i64 (f:Int),.int .i64 lt,.int .i64 ag] 2)) V.heap.size 2 (.slice (some ⟨W1.heap.size,0,none⟩) 4 4) [st,(f:Int),lt,ag]):=af (OX.new W1 V.heap.size 2 _ _ rfl _ rfl PK.out.size 4 rfl az);have VD:=af (bD VE.out (.cells #[.int .i64 st,.int .i64 (f:Int),.int .i64 lt,.int .i64 ag] 2));generalize W1.alloc (.cells #[.int .i64 st,.int .i64 (f:Int),.int .i64 lt,.int .i64 ag] 2)=W2 at *;clear hb2;refine dh 15 λK hK=>?_;go_simp
 refine (Rv.out _ O5.out _ _ [st,(f:Int),lt,ag] _ _ _).mono ?_;rintro e W3 ⟨rfl,hb⟩;have Pk:=af (O5.out.trans (hb.mono O5.out.size));have S5:=af (QL.out.below hb);have Rz:=af (bA hb (bg VD.out) VD.out);clear hb;go_wp2_with fail
 refine hK.out _ _ (Tj.out _ Pk.out) (λaD=>?_);clear hK K;refine bX ?_;refine dh 17 λK hK=>?_;refine d8 rfl λQ' hQ=>?_;refine wpList_store_row rfl 83 (.tmp 7) (.tmp 46) rfl W0.heap.size #[.int .i64 (s.own:Int),.int .i64 (q:Int),.int .i64 3,.slice (some ⟨W1.heap.size,0,none⟩) 4 4,.slice none 0 0] rfl rfl 83 _ Rz.out hC rfl (gP _ _ _ _ _ _ _ _ _) ?_;refine hQ _ _ ?_;clear hQ Q';have P8:=eo W3 W0.heap.size #[.int .i64 (s.own:Int),.int .i64 (q:Int),.int .i64 3,.slice (some ⟨W1.heap.size,0,none⟩) 4 4,.slice none 0 0];have hbf:=Pk.out.trans (P8.below Pk.out.size (by simpa using HG.out));have hmf:=setRow_heap W3 W0.heap.size _ #[.int .i64 (s.own:Int),.int .i64 (q:Int),.int .i64 3,.slice (some ⟨W1.heap.size,0,none⟩) 4 4,.slice none 0 0] 83 (0,0) Rz.out;have YH:OX _ V.heap.size 2 _ [st,(f:Int),lt,ag]:=fk S5.out P8 (λj hj cur=>by rw [aj.1 hj,Rz.out];simp);refine hK.out _ _ (Tj.out _ hbf) (λaD=>?_);clear hK K;refine bX ?_;refine iX ?_;go_wp2_with fail
 go_meet
 exact ⟨_,_,rfl,hmf,HG.out,YH,hbf⟩):p:=h
theorem CG {p:Prop} (h:p:=by
 have YH:OX _ V.heap.size 2 _ [st,(f:Int),lt,ag]:=fk S5.out P8 (λj hj cur=>by rw [aj.1 hj,Rz.out];simp);refine hK.out _ _ (Tj.out _ hbf) (λaD=>?_);clear hK K;refine bX ?_;refine iX ?_;go_wp2_with fail
 go_meet
 exact ⟨_,_,rfl,hmf,HG.out,YH,hbf⟩):p:=h
theorem CF {p:Prop} (h:p:=by
 refine dh 6 λK hK=>?_;refine d8 rfl λQ' hQ=>?_;refine dU rfl (.tmp 61) (.tmp 65) rfl V.heap.size (.slice al j cl) bj jy Wu.out W1.heap.size (.slice a5 bl c5) bs jy ((ap HC6.out 0).trans rfl) Zh.out HBJ.out O5.out.size ?_;intro a7 c7 W3 WN Yd hg7;have hon7:=kI hg7;have hM7:=hon7.keeps VD.out (λhm=>by have h9:=Wu.out;obtain ⟨vs,_,hr,_⟩:=h9;have h8:=d9 (fw hr (aH _)) ud;rw [VD.out] at h8;simp at h8);have hN7:OX W3 V.heap.size 2 _ _:=fk HON2.out hon7 (λj hj cur hh=>by obtain ⟨vs,_,hr,_⟩:=Wu.out;have h8:=d9 (fw hr (aH _)) (by simpa using hj);rw [hh] at h8;simp at h8);have hE7:=hon7.keeps Wz.out (λhm=>by have h9:=Wu.out;obtain ⟨vs,_,hr,_⟩:=h9;have h8:=d9 (fw hr (aH _)) ud;rw [Wz.out] at h8;simp at h8);have hK7:W3.cell? ⟨E,1,none⟩=some (.slice au bl cu):=(ap hE7 1).trans rfl;have Yf:=O5.out.trans Yd;rw [HBJL.out] at WN ⊢;refine hQ _ _ ?_;clear hQ Q';refine hK.out _ _ hK7 (λaD=>?_);clear hK K;refine bX ?_;have Rz:=af hM7;have HON3:=af hN7;have HO7:=af WN;have Pk:=af Yf;have Ug:=af hE7;clear hM7 hN7 hK7 hE7 Yf WN Yd hg7 hon7;refine aJ 7 ?_;refine dh 8 λK hK=>?_;have TZ:W3.cell? ⟨M,4,none⟩=some (.slice al j cl):=(ap Rz.out 4).trans rfl;have hz4:=aU Rz.out 4;go_simp
 clear TZ hz4;have honf:Only [M] W3 (W3.setCell ⟨M,4,none⟩ (.slice a7 (j+1) c7)):=(Only.refl _ _).setCell bL _;have hkf:=honf.cell ((ap Ug.out 1).trans rfl) (by simpa using HEM.out);refine hK.out _ _ hkf (λaD=>?_);clear hK K;refine bX ?_;refine iX ?_;go_wp2_with fail
 go_roundw
 case rel =>
  refine ⟨j+1,_,_,by omega,by go_num,be Rz.out 4 (.slice a7 (j+1) c7),?_,?_,Pk.out.trans (honf.below Pk.out.size (by simpa using HGM.out))⟩
  ·rw [HTJ.out,<-bS,hnj];exact fk HON3.out honf (λi hi cur=>by rw [aj.1 hi,Rz.out];simp)
  ·rw [HBJ2.out];exact HO7.out.only honf (λi hi cur=>by rw [aj.1 hi,Rz.out];simp)
 case measure=>simp [intOf];omega):p:=h
theorem CE {p:Prop} (h:p:=by
 refine dh 5 λK hK=>?_;go_simp
 have hk:(W1.alloc (.cells #[.slice a5 bl c5] 31)).cell? ⟨E,1,none⟩=some (.slice au bl cu):=(ap (bD Zt.out _) 1).trans rfl;refine hK.out _ _ hk (λaD=>?_);clear hK K;refine bX ?_;have Wz:=af (bD Zt.out (.cells #[.slice a5 bl c5] 31));have O5:=af (PK.out.alloc PK.out.size (.cells #[.slice a5 bl c5] 31));have VD:=af (bD VE.out (.cells #[.slice a5 bl c5] 31));have HON2:Hid (OX (W1.alloc (.cells #[.slice a5 bl c5] 31)) V.heap.size 2 _ _):=af (HON1.out.alloc _);have Wu:=af (HOL1.out.below ((aG _ _).alloc (ah _) (.cells #[.slice a5 bl c5] 31)));have Zh:Hid (OW (W1.alloc (.cells #[.slice a5 bl c5] 31)) V.heap.size 5 _ _):=af (HV5.out.alloc _);have HC6:=af (aV W1 (.cells #[.slice a5 bl c5] 31));have HH:=af (show V.heap.size<=W1.heap.size from PK.out.size);generalize hw2:W1.alloc (.cells #[.slice a5 bl c5] 31)=W2 at *;have HEH:Hid (∃z,z=W1.heap.size):=af ⟨_,rfl⟩;clear hk hw2;exact CF):p:=h
theorem Nr:(Tryz.prog.info? 2).map (λi=>(i.zero,i.size,i.bytes))=some (some (.int .i64 0),1,8):=dW
section
variable {w w':World} {A A' X X':List Nat} {r d l:Nat} {s s':Rp} {k k':Dk}
def nu (s:Rp) (q:Nat):Nat:=min 20 (s.Oz.length - s.next.getD q 0)
theorem BC (s:Rp) (q:Nat):cF s q=⟨(s.own:Int),(q:Int),3,[s.Ow,(s.next.getD q 0:Int),bV s.Oz (s.next.getD q 0),(s.agreed:Int)]++((s.Oz.map Po.Ow).drop (s.next.getD q 0)).take (nu s q),((s.Oz.map Po.bs).drop (s.next.getD q 0)).take (nu s q)⟩:=by
 have e:∀{β:Type} (g:Po->β),((s.Oz.map g).drop (s.next.getD q 0)).take (nu s q)=((s.Oz.drop (s.next.getD q 0)).take 20).map g:=λg=>by
  rw [<-N6,jv];unfold nu;rcases Nat.le_total 20 (s.Oz.length - s.next.getD q 0) with h | h
  ·rw [bT h]
  ·rw [Nat.min_eq_right h,bE (by rw [aW,cH];exact ah _),bE (by rw [aW,cH];exact h)]
 rw [e,e];rfl
theorem mV (h:Nd w A X r d l s k) (hw:Wf s k) (q:Nat) (hq:q<s.n) (Sh:s.next.getD q 0<=s.Oz.length):Calls Tryz.prog 63 #[.pointer (some ⟨r,0,none⟩),.int .i64 (q:Int)] w λe w'=>∃v u,e = .returned (en (cF s q) v u)/\OU w' A (cF s q) v u/\Below w.heap.size w w':=by
 have Ux:=af h.alt;have hlogb:=hw.QV;have UO:=af hw.Rk;obtain ⟨ao,c,Qp⟩:=h.Yy;have Rq:=Qp.c8;have hle:=Qp.le;have hcm:=Qp.cm;have HN:=af h;have HEQ:=af (BC s q);have HLTM:=af (λW (hb:Below w.heap.size w W)=>gg (h.below hb) (s.next.getD q 0) Sh az);obtain ⟨D,L,R,vl,gv,gn,gm,gh,h,hX⟩:=h;have Re:w.cell? ⟨r,6,none⟩=some (.int .i64 s.Ow):=mU;have Q5:w.cell? ⟨r,9,none⟩=some (.int .i64 (s.agreed:Int)):=mU;have hc13:w.cell? ⟨r,13,none⟩=some (.slice (some ⟨gn,0,none⟩) s.n s.n):=mU;have UY:w.cell? ⟨gn,q,none⟩=some (.int .i64 (s.next.getD q 0:Int)):=by rw [ap h.next];exact iH _ _ (by rw [hw.nl];exact hq)
 have hV:=(aG w.heap.size w).alloc (ah _) (.cells #[.int .i64 0,.int .i64 0,.int .i64 0,.slice none 0 0,.slice none 0 0] 83);have hk6:=cell_later hV Re;have RG:=cell_later hV Rq;have hk9:=cell_later hV Q5;have Tg:=cell_later hV hc13;have VV:=cell_later hV UY;have hq2:(q:Int)<(s.n:Int):=az;have hbn:nu s q=min 20 (s.Oz.length - s.next.getD q 0):=rfl;generalize s.next.getD q 0=f at *;have q1:IntKind.i64.wrap ((f:Int)+20)=(f:Int)+20:=IntWalk.i64_in _ az;have Uo:(min ((f:Int)+20) (s.Oz.length:Int)).toNat - f=nu s q:=az;have VE:=af Uo;have HBN:=af hbn;clear Uo hbn;generalize nu s q=m at *;generalize hTT:s.Oz.map Po.Ow=T at *;generalize hBB:s.Oz.map Po.bs=Bs at *;have hTl:T.length=s.Oz.length:=by rw [<-hTT];simp
 have hBl:Bs.length=s.Oz.length:=by rw [<-hBB];simp
 clear h hX hc13 UY;go_enter Tryz.func63,Tryz.ntmps63
 go_upto_region 1 with (fail)
 have P0:=af (aV w (.cells #[.int .i64 0,.int .i64 0,.int .i64 0,.slice none 0 0,.slice none 0 0] 83));have hVs:w.heap.size<(w.alloc (.cells #[.int .i64 0,.int .i64 0,.int .i64 0,.slice none 0 0,.slice none 0 0] 83)).heap.size:=bL;generalize w.alloc (.cells #[.int .i64 0,.int .i64 0,.int .i64 0,.slice none 0 0,.slice none 0 0] 83)=V at *;have q2:(f:Int)<=(s.Oz.length:Int):=az;have HL:=af Qp;clear Qp;generalize SD:s.Oz.length=sl at *;go_upto_region 2 with (fail)
 go_cut [6] (λv wx=>∃(ga:Option Addr) (cc:Nat),v = .slice ga m cc/\(0<m->∃g,ao=some ⟨g,0,none⟩/\ga=some ⟨g,f*2,none⟩)/\∃nq,wx=V.drewN nq)
 case first =>
  by_cases hfc:c=f
  · have WR:m=0:=by have:=HBN.out;omega
    have XZ:sl=f:=az;subst hfc;subst XZ;have QU:=af WR;clear WR;go_quiet (fail)
    go_wp2_with fail
    go_meet
    exact ⟨_,_,by rw [VE.out],(λh=>by have:=QU.out;omega),nq,rfl⟩
  · obtain ⟨g,rfl⟩:∃g,ao=some ⟨g,0,none⟩:=Ma;go_quiet (fail)
    go_wp2_with fail
    go_meet
    exact ⟨_,_,by rw [VE.out],(λh=>⟨g,rfl,rfl⟩),nq,rfl⟩
 case rest =>
 obtain ⟨ga,cc,rfl,hga,nq,rfl⟩:=hcut;have c6:∀w',Below w.heap.size w w'->w'.cell? ⟨r,6,none⟩=some (.int .i64 s.Ow):=λw' hb=>cell_later hb Re;have c9:∀w',Below w.heap.size w w'->w'.cell? ⟨r,9,none⟩=some (.int .i64 (s.agreed:Int)):=λw' hb=>cell_later hb Q5;have Ty:Hid (∀w',Below V.heap.size V w'->Calls Tryz.prog 68 #[.pointer (some ⟨r,0,none⟩),.int .i64 (f:Int)] w' λe w2=>e = .returned (.int .i64 (bV s.Oz f))/\w'=w2):=af (λw' hb2=>HLTM.out w' (hV.trans (hb2.mono hV.size)));have Rv:Hid (∀w',Below V.heap.size V w'->∀dst kind N ao n c,Calls Tryz.prog 67 #[.pointer (some ⟨r,0,none⟩),.int .i64 dst,.int .i64 kind,.slice ao n c] w' λe w2=>e = .returned (en (dQ s dst kind N) (.slice ao n c) (.slice none 0 0))/\Below w'.heap.size w' w2):=af (λw' hb2 dst kind N ao n c=>lK (HN.out.below (hV.trans (hb2.mono hV.size))) dst kind N ao n c);have Tj:Hid (∀w',Below V.heap.size V w'->Below w.heap.size w w'):=af (λw' hb=>hV.trans (hb.mono hV.size));have HBQ:Hid (Below V.heap.size V (V.drewN nq).drew):=af ((aB V nq).trans (show Below V.heap.size (V.drewN nq) (V.drewN nq).drew from aB (V.drewN nq) 1));generalize hlt:bV s.Oz f=lt at *;generalize QJ:(s.agreed:Int)=ag at *;generalize s.Ow=st at *;clear Re Rq Q5 hk6 RG hk9 Tg VV hq2;go_upto_region 3 with (fail)
 go_cut [7] (λp wx=>∃M vN,p = .pointer (some ⟨M,0,none⟩)/\wx.heap[M]? = some (.cells #[.int .i64 (s.own:Int),.int .i64 (q:Int),.int .i64 3,vN,.slice none 0 0] 83 (0,0))/\V.heap.size<=M/\OX wx V.heap.size 2 vN [st,(f:Int),lt,ag]/\Below V.heap.size V wx)
 case first =>
  refine wp_region_held_drew (S:=λw'=>Below w.heap.size w w') dW (Tj.out _ HBQ.out) (λaD=>?_);refine aJ 0 ?_;refine aJ 1 ?_;refine aJ 2 ?_;refine aJ 3 ?_;refine aJ 4 ?_;refine aJ 5 ?_;refine aJ 6 ?_;refine aJ 7 ?_;refine aJ 8 ?_;refine aJ 10 ?_;refine aJ 11 ?_;refine aJ 12 ?_;refine aJ 13 ?_;have QQ:=HBQ;generalize (V.drewN nq).drew=W0 at *;refine mf 9 16 (λK hK=>?_) λK hK=>?_
  ·go_simp
   refine (Ty.out _ QQ.out).mono ?_;rintro e wa ⟨rfl,rfl⟩;go_wp2_with fail
   refine hK.out _ _ aD (λaD=>?_);clear hK K;refine bX ?_;refine mf 14 16 (λK hK=>?_) λK hK=>?_
   ·go_simp
    have hb1:=QQ.out.alloc QQ.out.size (.cells #[.int .i64 st,.int .i64 (f:Int),.int .i64 lt,.int .i64 ag] 2);refine hK.out _ _ (Tj.out _ hb1) (λaD=>?_);clear hK K;refine bX ?_;have PK:=af hb1;have Sm:Hid (OX (W0.alloc (.cells #[.int .i64 st,.int .i64 (f:Int),.int .i64 lt,.int .i64 ag] 2)) V.heap.size 2 (.slice (some ⟨W0.heap.size,0,none⟩) 4 4) [st,(f:Int),lt,ag]):=af (OX.new W0 V.heap.size 2 _ _ rfl _ rfl QQ.out.size 4 rfl az);generalize W0.alloc (.cells #[.int .i64 st,.int .i64 (f:Int),.int .i64 lt,.int .i64 ag] 2)=W1 at *;clear hb1;refine mf 15 16 (λK hK=>?_) λK hK=>?_
    ·go_simp
     refine (Rv.out _ PK.out _ _ [st,(f:Int),lt,ag] _ _ _).mono ?_;rintro e W2 ⟨rfl,hb⟩;have O5:=af (PK.out.trans (hb.mono PK.out.size));have QL:=af (Sm.out.below hb);clear hb;go_wp2_with fail
     refine hK.out _ _ (Tj.out _ O5.out) (λaD=>?_);clear hK K;refine bX ?_;refine dh 16 λK hK=>?_;go_simp
     have hb3:=O5.out.alloc O5.out.size (.cells #[.int .i64 0,.int .i64 0,.int .i64 0,.slice none 0 0,.slice none 0 0] 83);refine hK.out _ _ (Tj.out _ hb3) (λaD=>?_);clear hK K;refine bX ?_;have Pk:=af hb3;have Rz:=af (aV W2 (.cells #[.int .i64 0,.int .i64 0,.int .i64 0,.slice none 0 0,.slice none 0 0] 83));have HG:Hid (V.heap.size<=W2.heap.size):=af O5.out.size;have S5:Hid (OX (W2.alloc (.cells #[.int .i64 0,.int .i64 0,.int .i64 0,.slice none 0 0,.slice none 0 0] 83)) V.heap.size 2 _ [st,(f:Int),lt,ag]):=af (QL.out.alloc _);generalize hw3:W2.alloc (.cells #[.int .i64 0,.int .i64 0,.int .i64 0,.slice none 0 0,.slice none 0 0] 83)=W3 at *;clear hb3 hw3;refine dh 17 λK hK=>?_;refine d8 rfl λQ' hQ=>?_;refine wpList_store_row rfl 83 (.tmp 7) (.tmp 46) rfl W2.heap.size #[.int .i64 (s.own:Int),.int .i64 (q:Int),.int .i64 3,.slice (some ⟨W0.heap.size,0,none⟩) 4 4,.slice none 0 0] rfl rfl 83 _ Rz.out hC rfl (gP _ _ _ _ _ _ _ _ _) ?_;refine hQ _ _ ?_;clear hQ Q';have P8:=eo W3 W2.heap.size #[.int .i64 (s.own:Int),.int .i64 (q:Int),.int .i64 3,.slice (some ⟨W0.heap.size,0,none⟩) 4 4,.slice none 0 0];have hbf:=Pk.out.trans (P8.below Pk.out.size (by simpa using HG.out));have hmf:=setRow_heap W3 W2.heap.size _ #[.int .i64 (s.own:Int),.int .i64 (q:Int),.int .i64 3,.slice (some ⟨W0.heap.size,0,none⟩) 4 4,.slice none 0 0] 83 (0,0) Rz.out;exact CG
    ·go_simp
     have hb2:=PK.out.alloc PK.out.size (.cells #[.int .i64 0,.int .i64 0,.int .i64 0,.slice none 0 0,.slice none 0 0] 83);refine hK.out _ _ (Tj.out _ hb2) (λaD=>?_);clear hK K;refine bX ?_;have O5:=af hb2;have VD:=af (aV W1 (.cells #[.int .i64 0,.int .i64 0,.int .i64 0,.slice none 0 0,.slice none 0 0] 83));have HG:Hid (V.heap.size<=W1.heap.size):=af PK.out.size;have QL:Hid (OX (W1.alloc (.cells #[.int .i64 0,.int .i64 0,.int .i64 0,.slice none 0 0,.slice none 0 0] 83)) V.heap.size 2 _ [st,(f:Int),lt,ag]):=af (Sm.out.alloc _);generalize hw2:W1.alloc (.cells #[.int .i64 0,.int .i64 0,.int .i64 0,.slice none 0 0,.slice none 0 0] 83)=W2 at *;clear hb2 hw2;refine dh 15 λK hK=>?_;go_simp
     refine (Rv.out _ O5.out _ _ [st,(f:Int),lt,ag] _ _ _).mono ?_;rintro e W3 ⟨rfl,hb⟩;have Pk:=af (O5.out.trans (hb.mono O5.out.size));have S5:=af (QL.out.below hb);have Rz:=af (bA hb (bg VD.out) VD.out);clear hb;go_wp2_with fail
     refine hK.out _ _ (Tj.out _ Pk.out) (λaD=>?_);clear hK K;refine bX ?_;refine dh 17 λK hK=>?_;refine d8 rfl λQ' hQ=>?_;refine wpList_store_row rfl 83 (.tmp 7) (.tmp 46) rfl W1.heap.size #[.int .i64 (s.own:Int),.int .i64 (q:Int),.int .i64 3,.slice (some ⟨W0.heap.size,0,none⟩) 4 4,.slice none 0 0] rfl rfl 83 _ Rz.out hC rfl (gP _ _ _ _ _ _ _ _ _) ?_;refine hQ _ _ ?_;clear hQ Q';have P8:=eo W3 W1.heap.size #[.int .i64 (s.own:Int),.int .i64 (q:Int),.int .i64 3,.slice (some ⟨W0.heap.size,0,none⟩) 4 4,.slice none 0 0];have hbf:=Pk.out.trans (P8.below Pk.out.size (by simpa using HG.out));have hmf:=setRow_heap W3 W1.heap.size _ #[.int .i64 (s.own:Int),.int .i64 (q:Int),.int .i64 3,.slice (some ⟨W0.heap.size,0,none⟩) 4 4,.slice none 0 0] 83 (0,0) Rz.out;exact CG
   ·go_simp
    have hb1:=QQ.out.alloc QQ.out.size (.cells #[.int .i64 0,.int .i64 0,.int .i64 0,.slice none 0 0,.slice none 0 0] 83);refine hK.out _ _ (Tj.out _ hb1) (λaD=>?_);clear hK K;refine bX ?_;have PK:=af hb1;have VE:=af (aV W0 (.cells #[.int .i64 0,.int .i64 0,.int .i64 0,.slice none 0 0,.slice none 0 0] 83));have HG:Hid (V.heap.size<=W0.heap.size):=af QQ.out.size;generalize YB:W0.alloc (.cells #[.int .i64 0,.int .i64 0,.int .i64 0,.slice none 0 0,.slice none 0 0] 83)=W1 at *;clear hb1 YB;exact CH
  ·go_simp
   have hb1:=QQ.out.alloc QQ.out.size (.cells #[.int .i64 0,.int .i64 0,.int .i64 0,.slice none 0 0,.slice none 0 0] 83);refine hK.out _ _ (Tj.out _ hb1) (λaD=>?_);clear hK K;refine bX ?_;have PK:=af hb1;have VE:=af (aV W0 (.cells #[.int .i64 0,.int .i64 0,.int .i64 0,.slice none 0 0,.slice none 0 0] 83));have HG:Hid (V.heap.size<=W0.heap.size):=af QQ.out.size;generalize YB:W0.alloc (.cells #[.int .i64 0,.int .i64 0,.int .i64 0,.slice none 0 0,.slice none 0 0] 83)=W1 at *;clear hb1 YB;refine dh 9 λK hK=>?_;go_simp
   refine (Ty.out _ PK.out).mono ?_;rintro e wa ⟨rfl,rfl⟩;go_wp2_with fail
   refine hK.out _ _ aD (λaD=>?_);clear hK K;refine bX ?_;exact CH
 case rest =>
 obtain ⟨M,vN0,rfl,SY,hgM,Uu,hB0⟩:=hcut;rename World=>wx;have HGM:=af hgM;go_wp2_with fail
 go_loopw [49] (λi wr=>∃(j:Nat) (vN vB:Value),j<=m/\i = .int .i64 (j:Int)/\wr.heap[M]? = some (.cells #[.int .i64 (s.own:Int),.int .i64 (q:Int),.int .i64 3,vN,vB] 83 (0,0))/\OX wr V.heap.size 2 vN ([st,(f:Int),lt,ag]++(T.drop f).take j)/\PC wr V.heap.size vB ((Bs.drop f).take j)/\Below V.heap.size V wr) (λi _=>m - (intOf i).toNat)
 case atStart=>exact ⟨0,_,_,aH _,rfl,SY,by simpa using Uu,by simpa using PC.nil _ _,hB0⟩
 case round =>
  clear SY Uu hB0 hgM;obtain ⟨j,vN,vB,hj,rfl,hM,hN,hB,hBV⟩:=hrel;have HM:=af hM;have Zn:=af hN;have Vp:=af hB;have QZ:=af hBV;clear hM hN hB hBV;by_cases R2:j<m
  · obtain ⟨g,rfl,rfl⟩:=hga az;have XE:f+j<sl:=by have:=HBN.out;omega
    obtain ⟨u,Su,PN,Qz⟩:=HL.out.at_ (f+j) (by rw [SD];exact XE) g rfl;rw [hTT] at Su;rw [hBB] at Qz;have WX:(Bs.getD (f+j) []).length<=8000:=by
      rw [<-hBB];have hlt3:f+j<s.Oz.length:=by rw [SD];exact XE
      have e:(s.Oz.map Po.bs).getD (f+j) []=s.Oz[f+j].bs:=by simp [List.getD,hlt3]
      rw [e];exact UO.out _ (cW _)
    have HTJ:Hid ((T.drop f).take (j+1)=(T.drop f).take j++[T.getD (f+j) 0]):=af (by
      have Vh:j<(T.drop f).length:=Es;rw [<-bO Vh];simp [List.getD,show f+j<T.length by omega])
    have HBJ2:Hid ((Bs.drop f).take (j+1)=(Bs.drop f).take j++[Bs.getD (f+j) []]):=af (by
      have Vh:j<(Bs.drop f).length:=Es;rw [<-bO Vh];simp [List.getD,show f+j<Bs.length by omega])
    have HBJL:Hid (((Bs.drop f).take j).length=j):=af (by rw [aQ,cH];omega);have HTJL:Hid (([st,(f:Int),lt,ag]++(T.drop f).take j).length=4+j):=af (by rw [aE,aQ,cH];simp;omega);have HBJ:Hid (((Bs.drop f).take j).length+1<=1000000):=af (by rw [HBJL.out];omega);obtain ⟨au,cu,e,_⟩:=id Qz;subst e;generalize Yc:Bs.getD (f+j) []=bs at *;generalize hbl:bs.length=bl at *;have Q0:Hid (bs.length=bl):=af hbl;have Xl:Hid (∀W',Below V.heap.size V W'->Pg W' au bl cu bs):=af (λW' hb=>by
      obtain ⟨Wj,c',e,h1,_⟩:=Qz.below (Tj.out _ hb);cases e;rw [hbl] at h1;exact h1)
    generalize T.getD (f+j) 0=t at *;have Su:=cell_later (Tj.out _ QZ.out) Su;have PN:=cell_later (Tj.out _ QZ.out) PN;have q9:(f+j)*2=f*2+j*2:=az;rw [q9] at Su PN;have q5:(j:Int)<(m:Int):=az;have q6:IntKind.i64.wrap ((j:Int)+1)=(j:Int)+1:=IntWalk.i64_in _ az;obtain ⟨an,cn,evn,_⟩:=Zn.out.Xr;rw [HTJL.out] at evn;subst evn;obtain ⟨al,cl,evb,_⟩:=Vp.out.shape;rw [HBJL.out] at evb;subst evb;have HLEN:Hid (([st,(f:Int),lt,ag]++(T.drop f).take j).length+1<=17592186044416):=af (by rw [HTJL.out];omega);generalize hbj:(Bs.drop f).take j=bj at *;generalize hnj:[st,(f:Int),lt,ag]++(T.drop f).take j=nj at *;have HE5:=af (aV wr (.cells #[.int .i64 t,.slice au bl cu] 94));have HM5:=af (bD HM.out (.cells #[.int .i64 t,.slice au bl cu] 94));have Vo:Hid (OX (wr.alloc (.cells #[.int .i64 t,.slice au bl cu] 94)) V.heap.size 2 _ _):=af (Zn.out.alloc _);have Q6:=af (Vp.out.below ((aG _ _).alloc (ah _) (.cells #[.int .i64 t,.slice au bl cu] 94)));have Uh:=af (QZ.out.alloc QZ.out.size (.cells #[.int .i64 t,.slice au bl cu] 94));have U9:(wr.alloc (.cells #[.int .i64 t,.slice au bl cu] 94)).cell? ⟨M,3,none⟩=some (.slice an (4+j) cn):=(ap HM5.out 3).trans rfl;have Xt:(wr.alloc (.cells #[.int .i64 t,.slice au bl cu] 94)).cell? ⟨wr.heap.size,0,none⟩=some (.int .i64 t):=(ap HE5.out 0).trans rfl;have HBLN:=af WX;clear Qz WX R2;go_upto_region 7 with (fail)
    generalize hW5:wr.alloc (.cells #[.int .i64 t,.slice au bl cu] 94)=W5 at *;have HEW:Hid (wr.heap.size<W5.heap.size):=af (by rw [<-hW5];simp);clear hW5 Su PN;generalize wr.heap.size=E at *;go_wp2_with (at_builtin;refine ja rfl (.tmp 54) (.tmp 57) 81 rfl V.heap.size 2 Tryz.underlying81 Nr (.slice an (4+j) cn) nj rfl (Vo.out.alloc _) (some ⟨W5.heap.size,0,none⟩) 1 1 [t] rfl (lP (aV W5 _)) HLEN.out (Uh.out.alloc Uh.out.size _).size ?_)
    intro vN6 W6 Ta hg6 SE;have hon6:=kI hg6;have hne6:∀{b:Nat} {cs:Array Value} {t:TypeId},W5.heap[b]? = some (.cells cs t (0,0))->t≠2->W6.heap[b]? = some (.cells cs t (0,0)):=λhb ht=>hon6.keeps (bD hb _) (λhm=>by
      have h8:=d9 (OX.mono (Vo.out.alloc (.cells #[.int .i64 t] 2)) (aH _)) ud;rw [bD hb _] at h8;simp at h8;exact ht h8)
    have hM6:=hne6 HM5.out dZ;have hE6:=hne6 HE5.out dZ;have hB6:PC W6 V.heap.size (.slice al j cl) bj:=(Q6.out.below ((aG _ _).alloc (ah _) (.cells #[.int .i64 t] 2))).only hon6 (λb hm cur=>by
      have h8:=d9 (OX.mono (Vo.out.alloc (.cells #[.int .i64 t] 2)) (aH _)) ud;rw [h8];simp)
    have hV6:=(Uh.out.alloc Uh.out.size (.cells #[.int .i64 t] 2)).trans SE;have hs6:E<W6.heap.size:=aK HEW.out (aF bL hon6.size);obtain ⟨a6,c6',e6,_⟩:=Ta.Xr;rw [aE,HTJL.out] at e6;simp only [aX,fp,cB] at e6;subst e6;have U9:W6.cell? ⟨M,3,none⟩=some (.slice an (4+j) cn):=(ap hM6 3).trans rfl;have hz3:=aU hM6 3;have HM6:=af hM6;have HE6:=af hE6;have TQ:=af hB6;have Zh:=af hV6;have HO6:=af Ta;clear hM6 hE6 hB6 hV6 Ta hg6 SE hon6 hne6 Xt;go_upto_region 8 with (fail)
    have o9:Only [M] W6 (W6.setCell ⟨M,3,none⟩ (.slice a6 (4+j+1) c6')):=(Only.refl _ _).setCell bL _;have QU:Hid ((W6.setCell ⟨M,3,none⟩ (.slice a6 (4+j+1) c6')).heap[M]? = some (.cells #[.int .i64 (s.own:Int),.int .i64 (q:Int),.int .i64 3,.slice a6 (4+j+1) c6',.slice al j cl] 83 (0,0))):=af (be HM6.out 3 _);have HEM:Hid (E≠M):=af (cQ HE6.out HM6.out dZ);have HE0:=af (o9.keeps HE6.out (by simpa using HEM.out));have HON0:Hid (OX _ V.heap.size 2 _ _):=af (fk HO6.out o9 (λi hi cur=>by rw [aj.1 hi,HM6.out];simp));have HOL0:=af (TQ.out.only o9 (λi hi cur=>by rw [aj.1 hi,HM6.out];simp));have HBX0:=af (Zh.out.trans (o9.below Zh.out.size (by simpa using HGM.out)));have TE:=(ap HE0.out 1).trans (show _=some (Value.slice au bl cu) from rfl);clear o9 U9 hz3;generalize W6.setCell ⟨M,3,none⟩ (.slice a6 (4+j+1) c6')=W9 at *;have QQ:Hid (Below V.heap.size V W9.drew):=af (HBX0.out.drew);have QU:Hid (W9.drew.heap[M]? = _):=QU;have HE0:Hid (W9.drew.heap[E]? = _):=HE0;have HON0:Hid (OX W9.drew V.heap.size 2 _ _):=HON0;have HOL0:Hid (PC W9.drew V.heap.size _ _):=af (HOL0.out.below (aB W9 1));have TE:W9.drew.cell? ⟨E,1,none⟩=some (.slice au bl cu):=TE;refine wp_region_held_drew (S:=λw'=>w'.cell? ⟨E,1,none⟩=some (.slice au bl cu)) dW TE (λaD=>?_);refine aJ 0 ?_;refine aJ 2 ?_;refine aJ 3 ?_;generalize W9.drew=W0 at *;refine mf 1 4 (λK hK=>?_) λK hK=>?_
    ·have TZ:=ap QU.out 4;have YA:W0.cell? ⟨M,4,none⟩=some (.slice al j cl):=TZ.trans rfl;go_simp
     clear TZ YA;refine hK.out _ _ aD (λaD=>?_);clear hK K;refine bX ?_;refine dh 4 λK hK=>?_;go_simp
     refine (F.dV au bl cu bs _ (Xl.out _ QQ.out) (by have:=HBLN.out;omega)).mono ?_;rintro e W1 ⟨v5,rfl,PS,PA⟩;have PK:=af (QQ.out.trans (PA.mono QQ.out.size));have VE:=af (bA PA (bg QU.out) QU.out);have HON1:=af (HON0.out.below PA);have HOL1:=af (HOL0.out.below PA);have HV5:=af (PS.mono QQ.out.size);obtain ⟨a5,c5,e5,_⟩:=id HV5.out.S9;rw [Q0.out] at e5;subst e5;have Zt:=af (bA PA (bg HE0.out) HE0.out);have hk:W1.cell? ⟨E,1,none⟩=some (.slice au bl cu):=(ap Zt.out 1).trans rfl;clear PS PA;go_wp2_with fail
     refine hK.out _ _ hk (λaD=>?_);clear hK K;refine bX ?_;clear hk;exact CE
    ·go_simp
     refine (F.dV au bl cu bs _ (Xl.out _ QQ.out) (by have:=HBLN.out;omega)).mono ?_;rintro e W1 ⟨v5,rfl,PS,PA⟩;have PK:=af (QQ.out.trans (PA.mono QQ.out.size));have VE:=af (bA PA (bg QU.out) QU.out);have HON1:=af (HON0.out.below PA);have HOL1:=af (HOL0.out.below PA);have HV5:=af (PS.mono QQ.out.size);obtain ⟨a5,c5,e5,_⟩:=id HV5.out.S9;rw [Q0.out] at e5;subst e5;have Zt:=af (bA PA (bg HE0.out) HE0.out);have hk:W1.cell? ⟨E,1,none⟩=some (.slice au bl cu):=(ap Zt.out 1).trans rfl;clear PS PA;go_wp2_with fail
     refine hK.out _ _ hk (λaD=>?_);clear hK K;refine bX ?_;clear hk;refine mf 1 5 (λK hK=>?_) λK hK=>?_
     ·have TZ:=ap VE.out 4;have YA:W1.cell? ⟨M,4,none⟩=some (.slice al j cl):=TZ.trans rfl;go_simp
      clear TZ YA;refine hK.out _ _ aD (λaD=>?_);clear hK K;refine bX ?_;exact CE
     ·go_simp
      have hk:(W1.alloc (.cells #[.slice a5 bl c5] 31)).cell? ⟨E,1,none⟩=some (.slice au bl cu):=(ap (bD Zt.out _) 1).trans rfl;refine hK.out _ _ hk (λaD=>?_);clear hK K;refine bX ?_;have Wz:=af (bD Zt.out (.cells #[.slice a5 bl c5] 31));have O5:=af (PK.out.alloc PK.out.size (.cells #[.slice a5 bl c5] 31));have VD:=af (bD VE.out (.cells #[.slice a5 bl c5] 31));have HON2:Hid (OX (W1.alloc (.cells #[.slice a5 bl c5] 31)) V.heap.size 2 _ _):=af (HON1.out.alloc _);have Wu:=af (HOL1.out.below ((aG _ _).alloc (ah _) (.cells #[.slice a5 bl c5] 31)));have Zh:Hid (OW (W1.alloc (.cells #[.slice a5 bl c5] 31)) V.heap.size 5 _ _):=af (HV5.out.alloc _);have HC6:=af (aV W1 (.cells #[.slice a5 bl c5] 31));have HH:=af (show V.heap.size<=W1.heap.size from PK.out.size);generalize hw2:W1.alloc (.cells #[.slice a5 bl c5] 31)=W2 at *;have HEH:Hid (∃z,z=W1.heap.size):=af ⟨_,rfl⟩;clear hk hw2;refine dh 1 λK hK=>?_;have TZ:=ap VD.out 4;have YA:W2.cell? ⟨M,4,none⟩=some (.slice al j cl):=TZ.trans rfl;go_simp
      clear TZ YA;refine hK.out _ _ aD (λaD=>?_);clear hK K;refine bX ?_;exact CF
  · obtain rfl:j=m:=by omega
    have q5:¬((j:Int)<(j:Int)):=az;clear hga;have HZ:=af (bA QZ.out hVs P0.out);obtain ⟨an,cn,evn,_⟩:=Zn.out.Xr;obtain ⟨al,cl,evb,_⟩:=Vp.out.shape;generalize Pr:([st,(f:Int),lt,ag]++(T.drop f).take j).length=ln at *;generalize Uq:((Bs.drop f).take j).length=lb at *;subst evn evb;go_upto_region 10 with (fail)
    go_wp2_with (first | (refine wpList_load_row rfl 83 (.tmp 7) rfl M rfl 83 _ (0,0) _ HM.out Tryz.underlying83 rfl hC ?_) | (refine wpList_store_row rfl 83 (.tmp 4) (.tmp 69) rfl w.heap.size #[.int .i64 (s.own:Int),.int .i64 (q:Int),.int .i64 3,.slice an ln cn,.slice al lb cl] rfl rfl 83 _ HZ.out hC rfl (gP _ _ _ _ _ _ _ _ _) ?_))
    have P8:=eo wr w.heap.size #[.int .i64 (s.own:Int),.int .i64 (q:Int),.int .i64 3,.slice an ln cn,.slice al lb cl];have hz:∀i∈[w.heap.size],∀cur t,t≠83->wr.heap[i]? ≠ some (.cells cur t (0,0)):=λi hi cur t ht=>by
      rw [aj.1 hi,HZ.out];simp;intro _ h;exact ht h.symm
    have Yg:∀b∈A,b<V.heap.size:=λb hb=>by have:=Ux.out b hb;omega
    refine bodyPost_ret (results_cell_row (P:=Tryz.prog) (fn:=Tryz.f63) rfl _ _ w.heap.size 83 _ _ _ rfl (setRow_heap _ _ _ _ 83 (0,0) HZ.out) Tryz.underlying83 rfl hC) rfl ⟨.slice an ln cn,.slice al lb cl,by rw [HEQ.out];rfl,?_,(Tj.out _ QZ.out).trans (P8.below (Tj.out _ QZ.out).size bL)⟩;rw [HEQ.out];exact ⟨PB.new (w:=V) (fk Zn.out P8 (λi hi cur=>hz i hi cur 2 dZ)) Yg,PV.new (w:=V) (Vp.out.only P8 (λi hi cur=>⟨hz i hi cur 31 dZ,hz i hi cur 5 dZ⟩)) Yg⟩
end
theorem yv:(Tryz.prog.info? 83).map (λi=>(i.zero,i.size,i.bytes))=some (some (.agg #[.int .i64 0,.int .i64 0,.int .i64 0,.slice none 0 0,.slice none 0 0]),5,72):=dW
structure SZ where
 m:OM
 v:Value
 u:Value
def LH:SZ:=⟨⟨0,0,0,[],[]⟩,.slice none 0 0,.slice none 0 0⟩
def et (x:SZ):List Value:=[.int .i64 x.m.OD,.int .i64 x.m.dst,.int .i64 x.m.kind,x.v,x.u]
def eL (l:List SZ):List Value:=l.flatMap et
theorem la (l:List SZ):(eL l).length=l.length*5:=by
 induction l with
 | nil=>rfl
 | cons s l ih=>simp only [eL,nG,aE,aX] at ih ⊢;rw [ih];simp [et];omega
theorem iE (l m:List SZ):eL (l++m)=eL l++eL m:=by simp [eL]
theorem zi (l:List SZ) (i j:Nat) (hi:i<l.length) (hj:j<5):(eL l)[i*5+j]? = (et (l.getD i LH))[j]? := by
 induction l generalizing i with
 | nil=>simp at hi
 | cons s l ih =>
  cases i with
  | zero =>
   rw [show eL (s::l)=et s++eL l from rfl,dN (by simp [et];omega)];simp
  | succ i =>
   rw [show eL (s::l)=et s++eL l from rfl,gz (by simp [et];omega)];have:=ih i El;rw [show (i+1)*5+j - (et s).length=i*5+j by simp [et];omega,this];simp
structure PG (w:World) (A:List Nat) (base:Nat) (v:Value) (ms:List OM):Prop where
 ex:∃ps:List SZ,ps.map SZ.m=ms/\w.ownsRow base 83 5 v ms.length (eL ps)/\∀x∈ps,OU w (A++v.ownBlock.toList) x.m x.v x.u
theorem OU.one {w:World} {A:List Nat} {m:OM} {v u:Value} (h:OU w A m v u):v.oneCell'=true/\u.oneCell'=true:=by
 obtain ⟨⟨ao,c,rfl,_⟩,h2⟩:=h;refine ⟨rfl,?_⟩;rcases h2 with ⟨rfl,_⟩ | ⟨g,c,cur,rfl,_⟩<;>rfl
theorem PG.nil (w:World) (A:List Nat) (base:Nat):PG w A base (.slice none 0 0) []:=⟨⟨[],rfl,World.ownsRow_nil _ _ _ _,λx hx=>by cases hx⟩⟩
theorem PG.below {w w':World} {A:List Nat} {base:Nat} {v:Value} {ms:List OM} (h:PG w A base v ms) (hb:Below w.heap.size w w'):PG w' A base v ms:=by
 obtain ⟨ps,h1,h2,h3⟩:=h;exact ⟨ps,h1,ji h2 hb,λx hx=>(h3 x hx).below hb⟩
theorem PG.mono {w:World} {A:List Nat} {base base':Nat} {v:Value} {ms:List OM} (h:PG w A base v ms) (hb:base'<=base):PG w A base' v ms:=by
 obtain ⟨ps,h1,h2,h3⟩:=h;exact ⟨ps,h1,fw h2 hb,h3⟩
theorem PG.lt {w:World} {A:List Nat} {base:Nat} {v:Value} {ms:List OM} (h:PG w A base v ms):∀k∈v.ownBlock.toList,base<=k/\k<w.heap.size:=by
 obtain ⟨ps,h1,h2,h3⟩:=h;intro k hk;exact World.ownsRow.lt h2 k En
theorem PG.shape {w:World} {A:List Nat} {base:Nat} {v:Value} {ms:List OM} (h:PG w A base v ms):∃ao c,v = .slice ao ms.length c/\ms.length<=c/\c<=9223372036854775807:=by
 obtain ⟨ps,h1,h2,h3⟩:=h;exact ej h2
theorem oO {w:World} {ops:Array Oper} {rest:List Oper} {o:Oper} {a:Act} {Q:Exit->Act->World->Prop} {A:List Nat} (hgd:o.guard=none) (s x:Operand)
  (ho:o.op = .call { callee:=.builtin .append,args:=#[s,x],argTypes:=#[64,64]})
  (base:Nat) (vs:Value) (ms:List OM) (hs:a.eval s=vs) (hown:PG w A base vs ms)
  (H:Nat) (m:OM) (v u:Value) (hx:a.eval x = .slice (some ⟨H,0,none⟩) 1 1) (hcell:w.heap[H]? = some (.cells #[.int .i64 m.OD,.int .i64 m.dst,.int .i64 m.kind,v,u] 83 (0,0))) (Ur:OU w (A++vs.ownBlock.toList) m v u)
  (hbytes:ms.length+1<=100000) (hbase:base<=w.heap.size)
  (h:∀v' w',PG w' A base v' (ms++[m])->Only vs.ownBlock.toList w w'->wpList Tryz.prog ops Q rest (a.put o.dst v') w'):wpList Tryz.prog ops Q (o::rest) a w:=by
 obtain ⟨i0,Q4,hz0,hz1,hz2⟩:=info_parts yv;obtain ⟨ps,h1,h2,h3⟩:=hown;have PL:∀y∈et ⟨m,v,u⟩,y.oneCell'=true:=by
  intro y hy;simp only [et,cA,ki,or_false] at hy;rcases hy with rfl | rfl | rfl | rfl | rfl
  ·rfl
  ·rfl
  ·rfl
  ·exact Ur.one.1
  ·exact Ur.one.2
 refine wpList_append_lies w hgd s x 64 ho base 83 i0 _ 5 72 Tryz.underlying64 Q4 hz0 hz1 hz2 rfl dZ vs _ _ hs h2 ⟨H,0,none⟩ 1 1 (et ⟨m,v,u⟩) hx rfl ?_ PL dZ kE az hbase w.heap.size rfl ?_
 ·intro j y hj;rw [Addr.add_lit,cB,ap hcell,<-hj];simp [et]
 ·intro g cap w' g1 g2 g3 _;have P8:=kI g2;have O1:∀b∈vs.ownBlock.toList,b∈A++vs.ownBlock.toList:=λb hb=>aR _ hb;have QG:Ext (A++vs.ownBlock.toList) (A++(Value.slice (some ⟨g,0,none⟩) (ms.length+1) cap).ownBlock.toList) w:=λb hb=>by
   rcases aA.1 hb with hb | hb
   ·exact .inl (aI _ hb)
   ·have hbg:b=g:=by simp [Value.ownBlock] at hb;exact hb
    rw [hbg];rcases g3 with g3 | g3
    ·exact .inl (aR _ (by simp [g3]))
    ·exact .inr az
  refine h _ w' ⟨ps++[⟨m,v,u⟩],by simp [h1],by rw [aE,iE];simpa [eL] using g1,λy hy=>?_⟩ P8;rcases aA.1 hy with hy | hy
  ·exact (h3 y hy).step P8 O1 QG
  ·obtain rfl:=aj.1 hy;exact Ur.step P8 O1 QG
section
variable {w w':World} {A A' X X':List Nat} {r d l:Nat} {s s':Rp} {k k':Dk}
theorem Nd.more (h:Nd w A X r d l s k) (hb:Below w.heap.size w w') {B:List Nat} (hB:∀b∈B,w.heap.size<=b/\b<w'.heap.size):Nd w' (A++B) X r d l s k:=by
 obtain ⟨D,L,R,vl,gv,gn,gm,gh,h,hX⟩:=h;have ho:=Only.OL hb [];have he:Ext A (A++B) w:=λb hb=>by
  rcases aA.1 hb with hb | hb
  ·exact .inl hb
  ·exact .inr (hB b hb).1
 have h0:∀b∈([]:List Nat),b∈A:=λb hb=>by cases hb
 refine ⟨D,L,R,vl,gv,gn,gm,gh,⟨⟨h.wd.wl.keep ho bL h0 he,h.wd.dk.below hb,h.wd.Vm,λb hb=>aI _ (h.wd.dA b hb),λb hb=>aI _ (h.wd.lA b hb),λb hb2=>?_⟩,ho.keeps h.cell bL,h.Oz.step ho h0 he,ho.keeps h.OB bL,ho.keeps h.next bL,ho.keeps h.OE bL,ho.keeps h.heard bL,h.nm,h.rR,h.vR,h.nR,h.mR,h.hR,h.Yi,h.Yh,λb hb=>aI _ (h.rA b hb)⟩,hX⟩;rcases aA.1 hb2 with h1 | h1
 ·exact aK (h.wd.alt b h1) hb.size
 ·exact (hB b h1).2
theorem kC (s:Rp) (f:Nat->OM) (i:Nat):((List.range (i+1)).filter λj=>j != s.own).map f=(((List.range i).filter λj=>j != s.own).map f)++(if i=s.own then [] else [f i]):=by
 rw [dp,cz,cy];by_cases h:i=s.own
 ·simp [h]
 ·simp [h]
theorem iA (h:Nd w A X r d l s k) (hn:s.n<=5) (hw:Wf s k) (Sh:∀i,i<s.n->s.next.getD i 0<=s.Oz.length):Calls Tryz.prog 62 #[.pointer (some ⟨r,0,none⟩),.func (.func 63) #[.pointer (some ⟨r,0,none⟩)] #[]] w λe w'=>∃v,e = .returned v/\PG w' A w.heap.size v (dB s (cF s))/\Below w.heap.size w w':=by
 have HF:Hid (∀W B,Below w.heap.size w W->(∀b∈B,w.heap.size<=b/\b<W.heap.size)->∀i,i<s.n->i≠s.own->Calls Tryz.prog 63 #[.pointer (some ⟨r,0,none⟩),.int .i64 (i:Int)] W λe w'=>∃v u,e = .returned (en (cF s i) v u)/\OU w' (A++B) (cF s i) v u/\Below W.heap.size W w'):=af (λW B hb hB i hi hne=>mV (h.more hb hB) hw i hi (Sh i hi));obtain ⟨vl,gv,gn,gm,gh,hcell⟩:=h.cells;have hc0:w.cell? ⟨r,0,none⟩=some (.int .i64 (s.own:Int)):=iI;have hc1:w.cell? ⟨r,1,none⟩=some (.int .i64 (s.n:Int)):=iI;have Ux:=af h.alt;have HST:=af (kC s (cF s));have SQ:Hid (dB s (cF s)=((List.range s.n).filter λj=>j != s.own).map (cF s)):=af rfl;have Yo:Hid (∀i,(((List.range i).filter λj=>j != s.own).map (cF s)).length<=i):=af (λi=>by
  rw [aW];exact aF (cX _ _) bL)
 have H0:Hid (((List.range 0).filter λj=>j != s.own).map (cF s)=[]):=af bL;clear h hcell hw Sh;generalize hcc:(λi=>((List.range i).filter λj=>j != s.own).map (cF s))=cc at *;have HCC:Hid (∀i,((List.range i).filter λj=>j != s.own).map (cF s)=cc i):=af (λi=>by rw [<-hcc]);clear hcc;simp only [HCC.out] at HST SQ Yo H0;clear HCC;generalize hff:cF s=ff at *;exact N2
theorem n7 (h:Nd w A X r d l s k) (hn:s.n<=5) (hl:s.Oz.length<=1000000) (p:Nat) (hp:w.cell? ⟨p,0,none⟩=some (.pointer (some ⟨r,0,none⟩))):Calls Tryz.prog 62 #[.pointer (some ⟨r,0,none⟩),.func (.func 66) #[] #[.pointer (some ⟨p,0,none⟩)]] w λe w'=>∃v,e = .returned v/\PG w' A w.heap.size v (dB s (br s 5))/\Below w.heap.size w w':=by
 have HF:Hid (∀W B,Below w.heap.size w W->(∀b∈B,w.heap.size<=b/\b<W.heap.size)->∀i,i<s.n->i≠s.own->Calls Tryz.prog 66 #[.int .i64 (i:Int),.pointer (some ⟨p,0,none⟩)] W λe w'=>∃v u,e = .returned (en (br s 5 i) v u)/\OU w' (A++B) (br s 5 i) v u/\Below W.heap.size W w'):=af (λW B hb hB i hi hne=>Aq (h.more hb hB) hl p i (cell_later hb hp));obtain ⟨vl,gv,gn,gm,gh,hcell⟩:=h.cells;have hc0:w.cell? ⟨r,0,none⟩=some (.int .i64 (s.own:Int)):=iI;have hc1:w.cell? ⟨r,1,none⟩=some (.int .i64 (s.n:Int)):=iI;have Ux:=af h.alt;have HST:=af (kC s (br s 5));have SQ:Hid (dB s (br s 5)=((List.range s.n).filter λj=>j != s.own).map (br s 5)):=af rfl;have Yo:Hid (∀i,(((List.range i).filter λj=>j != s.own).map (br s 5)).length<=i):=af (λi=>by
  rw [aW];exact aF (cX _ _) bL)
 have H0:Hid (((List.range 0).filter λj=>j != s.own).map (br s 5)=[]):=af bL;clear h hcell hl hp;generalize hcc:(λi=>((List.range i).filter λj=>j != s.own).map (br s 5))=cc at *;have HCC:Hid (∀i,((List.range i).filter λj=>j != s.own).map (br s 5)=cc i):=af (λi=>by rw [<-hcc]);clear hcc;simp only [HCC.out] at HST SQ Yo H0;clear HCC;generalize hff:br s 5=ff at *;exact N2
theorem si (h:Nd w A X r d l s k) (hn:s.n<=5) (hl:s.Oz.length<=1000000) (p:Nat) (hp:w.cell? ⟨p,0,none⟩=some (.pointer (some ⟨r,0,none⟩))):Calls Tryz.prog 62 #[.pointer (some ⟨r,0,none⟩),.func (.func 92) #[] #[.pointer (some ⟨p,0,none⟩)]] w λe w'=>∃v,e = .returned v/\PG w' A w.heap.size v (dB s (br s 1))/\Below w.heap.size w w':=by
 have HF:Hid (∀W B,Below w.heap.size w W->(∀b∈B,w.heap.size<=b/\b<W.heap.size)->∀i,i<s.n->i≠s.own->Calls Tryz.prog 92 #[.int .i64 (i:Int),.pointer (some ⟨p,0,none⟩)] W λe w'=>∃v u,e = .returned (en (br s 1 i) v u)/\OU w' (A++B) (br s 1 i) v u/\Below W.heap.size W w'):=af (λW B hb hB i hi hne=>xH (h.more hb hB) hl p i (cell_later hb hp));obtain ⟨vl,gv,gn,gm,gh,hcell⟩:=h.cells;have hc0:w.cell? ⟨r,0,none⟩=some (.int .i64 (s.own:Int)):=iI;have hc1:w.cell? ⟨r,1,none⟩=some (.int .i64 (s.n:Int)):=iI;have Ux:=af h.alt;have HST:=af (kC s (br s 1));have SQ:Hid (dB s (br s 1)=((List.range s.n).filter λj=>j != s.own).map (br s 1)):=af rfl;have Yo:Hid (∀i,(((List.range i).filter λj=>j != s.own).map (br s 1)).length<=i):=af (λi=>by
  rw [aW];exact aF (cX _ _) bL)
 have H0:Hid (((List.range 0).filter λj=>j != s.own).map (br s 1)=[]):=af bL;clear h hcell hl hp;generalize hcc:(λi=>((List.range i).filter λj=>j != s.own).map (br s 1))=cc at *;have HCC:Hid (∀i,((List.range i).filter λj=>j != s.own).map (br s 1)=cc i):=af (λi=>by rw [<-hcc]);clear hcc;simp only [HCC.out] at HST SQ Yo H0;clear HCC;generalize hff:br s 1=ff at *;exact N2
end
theorem rM (k:Dk) (b:List UInt8):fU (nw k b)=fU k++b:=by
 grind [fU,nw,FP]
theorem tp (k:Dk) (b:List UInt8):(nw k b).room=k.room:=by
 cases k.file<;>rfl
structure Wg (s:Rp):Prop where
 n1:1<=s.n
 n5:s.n<=5
 own:s.own<s.n
 vl:s.OB.length=s.n
 nl:s.next.length=s.n
 ml:s.OE.length=s.n
 hl:s.heard.length=s.n
 Rg:s.agreed<=s.Oz.length
 VK:s.many=(recs (s.Oz.take s.agreed)).length
 lead:s.Oy=true->∀i,s.next.getD i 0<=s.Oz.length/\s.OE.getD i 0<=s.Oz.length
 Ql:0<=s.Ow
 Qy:s.Ow<=1099511627776
 Yj : -1<=s.OC
 Th:s.OC<s.n
 Rk:∀x∈s.Oz,x.bs.length<=8000
 tick:s.Ox<=s.OA
 Sc:∀x∈s.heard,0<=x.1/\x.1<=(s.OA:Int)
structure Wk (r:List (List UInt8)) (len:Nat) (k:Dk):Prop where
 room:k.room<=1048576
 RQ:(k.total:Int)<=k.room
 Uv:fU k=F.aY r
 RU:len<=r.length
theorem Wf.g {s:Rp} {k:Dk} (h:Wf s k):Wg s:=⟨h.n1,h.n5,h.own,h.vl,h.nl,h.ml,h.hl,h.Rg,h.VK,h.lead,h.Ql,h.Qy,h.Yj,h.Th,h.Rk,h.tick,h.Sc⟩
theorem Wf.k {s:Rp} {k:Dk} (h:Wf s k):Wk s.wl.recs s.Oz.length k:=⟨h.room,h.RQ,h.Uv,h.RU⟩
theorem Wg.wf {s:Rp} {k:Dk} (h:Wg s) (hk:Wk s.wl.recs s.Oz.length k):Wf s k:=⟨h.n1,h.n5,h.own,h.vl,h.nl,h.ml,h.hl,hk.room,hk.RQ,hk.Uv,hk.RU,h.Rg,h.VK,h.lead,h.Ql,h.Qy,h.Yj,h.Th,h.Rk,h.tick,h.Sc⟩
theorem Wk.mono {r:List (List UInt8)} {a b:Nat} {k:Dk} (h:Wk r a k) (hb:b<=a):Wk r b k:=⟨h.room,h.RQ,h.Uv,aF hb h.RU⟩
theorem J5 {s:Wl} {k:Dk} {len:Nat} (h:Wk s.recs len k) (b:List UInt8):Wk (gx s k b).2.1.recs len (gx s k b).2.2/\((gx s k b).1=0->(gx s k b).2.1.recs.length=s.recs.length+1):=by
 unfold gx;split
 ·exact DZ
 ·split
  ·exact DZ
  ·split
   ·exact DZ
   ·rename_i h3;refine ⟨⟨by rw [tp];exact h.room,?_,?_,?_⟩,λ_=>by simp⟩
    ·rw [fV,tp,rM,aE,F.dG];rw [fV] at h3;omega
    ·rw [rM,h.Uv];simp [F.aY]
    ·have:=h.RU;simp;omega
theorem Ga {s:Wl} {k:Dk} {len:Nat} (h:Wk s.recs len k):Wk (gX s k).2.1.recs len (gX s k).2.2:=by
 unfold gX;split
 ·exact h
 ·split
  ·exact h
  ·rename_i bl kk hf;refine ⟨h.room,?_,?_,h.RU⟩
   ·grind [Dk.total,h.RQ]
   ·have:=h.Uv;unfold fU at this ⊢;rw [hf] at this;exact this
section
variable {s:Rp} {k:Dk}
theorem Wg.done (h:Wg s) (w:Wl) (b:Bool):Wg { s with wl:=w,done:=b }:=⟨h.n1,h.n5,h.own,h.vl,h.nl,h.ml,h.hl,h.Rg,h.VK,h.lead,h.Ql,h.Qy,h.Yj,h.Th,h.Rk,h.tick,h.Sc⟩
theorem iC (h:Wf s k):Wf (bw s k) k:=(h.g.done s.wl (eG s k)).wf h.k
theorem uU (h:Wf s k) (b:List UInt8):Wf (bQ s k b).1 (bQ s k b).2/\((bQ s k b).1.done=false->s.Oz.length+1<=(bQ s k b).1.wl.recs.length):=by
 unfold bQ;split
 ·grind
 ·obtain ⟨h1,h2⟩:=J5 h.k b;refine ⟨(h.g.done _ _).wf h1,λe=>?_⟩;have e2:(gx s.wl k b).1=0:=by simpa using e
  rw [h2 e2];have:=h.RU;omega
theorem qb (h:Wf s k):Wf (cO s k).1 (cO s k).2:=by
 unfold cO;split
 ·exact h
 ·exact (h.g.done _ _).wf (Ga h.k)
theorem fj (b:List UInt8):(bQ s k b).1={ s with wl:=(bQ s k b).1.wl,done:=(bQ s k b).1.done }:=by
 unfold bQ;split<;>rfl
theorem fQ:(cO s k).1={ s with wl:=(cO s k).1.wl,done:=(cO s k).1.done }:=by
 unfold cO;split<;>rfl
theorem Wg.enter (h:Wg s) (b:Bool) (Ow who:Int) (h0:0<=Ow) (h1:Ow<=1099511627776) (h2 : -1<=who) (h3:who<s.n):Wg { s with Oy:=s.Oy&&b,Ow:=Ow,OC:=who } :=
 ⟨h.n1,h.n5,h.own,h.vl,h.nl,h.ml,h.hl,h.Rg,h.VK,λhl=>h.lead (by revert hl;cases s.Oy<;>simp),h0,h1,h2,h3,h.Rk,h.tick,h.Sc⟩
theorem jP (h:Wf s k) (Ow who:Int) (h0:0<=Ow) (h1:Ow<=1099511627776) (h2 : -1<=who) (h3:who<s.n):Wf (bB s k Ow who).2.1 (bB s k Ow who).2.2:=by
 have hw:=(uU h (ez Ow who)).1;have hn:(bQ s k (ez Ow who)).1.n=s.n:=by rw [fj]
 unfold bB;generalize bQ s k (ez Ow who)=p at *;simp only;split
 ·exact hw
 ·have hs:=qb hw;have Pf:(cO p.1 p.2).1.n=p.1.n:=by rw [fQ]
  generalize cO p.1 p.2=q at *;split
  ·exact hs
  ·exact (hs.g.enter _ Ow who h0 h1 h2 (by rw [Pf,hn];exact h3)).wf hs.k
theorem Wg.place (h:Wg s) (p:Nat) (x:Po) (hp:p<=s.Oz.length) (ha:s.agreed<=p) (hl:s.Oy=true->p=s.Oz.length) (hx:x.bs.length<=8000):Wg { s with Oz:=s.Oz.take p++[x]}:=by
 have hlen:(s.Oz.take p++[x]).length=p+1:=by simp [bT hp]
 refine ⟨h.n1,h.n5,h.own,h.vl,h.nl,h.ml,h.hl,?_,?_,λhl2 i=>?_,h.Ql,h.Qy,h.Yj,h.Th,λy hy=>?_,h.tick,h.Sc⟩
 ·grind
 ·rw [cS (by simp [bT hp];omega),dv,bT ha];exact h.VK
 ·have h1:=h.lead hl2 i;have h2:=hl hl2;show s.next.getD i 0<=(s.Oz.take p++[x]).length/\s.OE.getD i 0<=(s.Oz.take p++[x]).length;rw [hlen];omega
 ·rcases aA.1 hy with hy | hy
  ·exact h.Rk y (fK hy)
  ·rw [aj.1 hy];exact hx
theorem nJ (h:Wf s k) (p:Nat) (x:Po) (hp:p<=s.Oz.length) (ha:s.agreed<=p) (hl:s.Oy=true->p=s.Oz.length) (hx:x.bs.length<=8000):Wf (cR s k p x).2.1 (cR s k p x).2.2:=by
 obtain ⟨hw,hw2⟩:=uU h (dY p x);have hs:=fj (s:=s) (k:=k) (dY p x);unfold cR;generalize bQ s k (dY p x)=q at *;simp only;split
 ·exact hw
 ·rename_i hd;have PH:q.1.Oz=s.Oz:=by rw [hs]
  have ha1:q.1.agreed=s.agreed:=by rw [hs]
  have hle:q.1.Oy=s.Oy:=by rw [hs]
  refine (hw.g.place p x (by rw [PH];exact hp) (by rw [ha1];exact ha) (by rw [hle,PH];exact hl) hx).wf ⟨hw.room,hw.RQ,hw.Uv,?_⟩;have:=hw2 (by simpa using hd);rw [PH];simp [bT hp];omega
theorem qr (h:Wf s k) (x:Po) (hx:x.bs.length<=8000):Wf (gt s k x).2.1 (gt s k x).2.2:=by
 have hp:=nJ h s.Oz.length x (ah _) h.Rg (λ_=>rfl) hx;unfold gt;generalize cR s k s.Oz.length x=p at *;simp only;split
 ·exact qb hp
 ·exact hp
theorem uV (h:Wf s k) (n:Nat) (hn:n<=s.Oz.length):Wf (cI s n) k:=by
 unfold cI;split
 ·have hm:s.many+(recs ((s.Oz.take n).drop s.agreed)).length=(recs (s.Oz.take n)).length:=by
   rw [h.VK];have e:s.Oz.take n=s.Oz.take s.agreed++(s.Oz.take n).drop s.agreed:=by
    grind [eI,bT]
   exact Jz
  exact ⟨h.n1,h.n5,h.own,h.vl,h.nl,h.ml,h.hl,h.room,h.RQ,h.Uv,h.RU,hn,hm,h.lead,h.Ql,h.Qy,h.Yj,h.Th,h.Rk,h.tick,h.Sc⟩
 ·exact h
theorem pS {l:List Nat} {i x b:Nat} (h:∀j,l.getD j 0<=b) (hx:x<=b) (j:Nat):(l.set i x).getD j 0<=b:=by
 have:=h j;rw [aL,jA] at *;split
 ·split
  ·simpa using hx
  ·simp
 ·exact this
theorem xC (h:Wf s k) (i x:Nat) (hx:s.Oy=true->x<=s.Oz.length):Wf { s with OE:=s.OE.set i x } k :=
 ⟨h.n1,h.n5,h.own,h.vl,h.nl,by simpa using h.ml,h.hl,h.room,h.RQ,h.Uv,h.RU,h.Rg,h.VK,λhl j=>⟨(h.lead hl j).1,pS (λj=>(h.lead hl j).2) (hx hl) j⟩,h.Ql,h.Qy,h.Yj,h.Th,h.Rk,h.tick,h.Sc⟩
theorem qc (h:Wf s k) (i x:Nat) (hx:s.Oy=true->x<=s.Oz.length):Wf { s with next:=s.next.set i x } k :=
 ⟨h.n1,h.n5,h.own,h.vl,by simpa using h.nl,h.ml,h.hl,h.room,h.RQ,h.Uv,h.RU,h.Rg,h.VK,λhl j=>⟨pS (λj=>(h.lead hl j).1) (hx hl) j,(h.lead hl j).2⟩,h.Ql,h.Qy,h.Yj,h.Th,h.Rk,h.tick,h.Sc⟩
theorem xJ (s:Rp) (n m:Nat) (h:OQ s n=some m):m<=n:=by
 induction n with
 | zero=>cases h
 | succ n ih =>
  unfold OQ at h;split at h
  ·grind
  ·cases h
theorem gL (h:Wf s k):Wf (bZ s).2 k:=by
 have h1:=xC h s.own s.Oz.length (λ_=>ah _);unfold bZ;simp only;split
 ·grind [uV,xJ]
 ·exact h1
def R8 (s s':Rp):Prop:=∃w d l,s'={ s with wl:=w,done:=d,Oz:=l }
theorem R8.refl (s:Rp):R8 s s:=⟨_,_,_,rfl⟩
theorem R8.trans {a b c:Rp} (h:R8 a b) (g:R8 b c):R8 a c:=by
 obtain ⟨w,d,l,rfl⟩:=h;obtain ⟨w2,d2,l2,rfl⟩:=g;exact ⟨_,_,_,rfl⟩
theorem kx (b:List UInt8):R8 s (bQ s k b).1:=⟨_,_,_,fj b⟩
theorem jS:R8 s (cO s k).1:=⟨_,_,_,fQ⟩
theorem ky (p:Nat) (x:Po):R8 s (cR s k p x).2.1:=by
 have h:=kx (s:=s) (k:=k) (dY p x);unfold cR;generalize bQ s k (dY p x)=q at *;simp only;split
 ·exact h
 ·exact h.trans ⟨_,_,_,rfl⟩
theorem nT (x:Po):R8 s (gt s k x).2.1:=by
 have h:=ky (s:=s) (k:=k) s.Oz.length x;unfold gt;generalize cR s k s.Oz.length x=q at *;simp only;split
 ·exact h.trans jS
 ·exact h
theorem xi (n:Nat):(cI s n).Oy=s.Oy:=by unfold cI;split<;>rfl
theorem kv:(bZ s).2.Oy=s.Oy:=by
 grind [bZ,xi]
theorem IA (n:Nat):(cI s n).n=s.n:=by unfold cI;split<;>rfl
theorem Dh:(bZ s).2.n=s.n:=by
 grind [bZ,IA]
theorem fF (h:Wf s k) (lives:Int) (Ox OA:Nat) (OB:List Bool) (ht:Ox<=OA) (hv:OB.length=s.n) (hc:s.OA<=OA):Wf { s with lives:=lives,Ox:=Ox,OA:=OA,OB:=OB } k :=
 ⟨h.n1,h.n5,h.own,hv,h.nl,h.ml,h.hl,h.room,h.RQ,h.Uv,h.RU,h.Rg,h.VK,h.lead,h.Ql,h.Qy,h.Yj,h.Th,h.Rk,ht,λx hx=>⟨(h.Sc x hx).1,by have:=(h.Sc x hx).2;show x.1<=(OA:Int);omega⟩⟩
theorem qu (h:Wf s k):Wf { s with Oy:=true,next:=List.replicate s.n s.Oz.length,OE:=List.replicate s.n 0 } k :=
 ⟨h.n1,h.n5,h.own,h.vl,by simp,by simp,h.hl,h.room,h.RQ,h.Uv,h.RU,h.Rg,h.VK,λ_ j=>⟨by
  show (List.replicate s.n s.Oz.length).getD j 0<=s.Oz.length;rw [aL,Cl];split<;>simp,by
  show (List.replicate s.n 0).getD j 0<=s.Oz.length;rw [aL,Cl];split<;>simp⟩,h.Ql,h.Qy,h.Yj,h.Th,h.Rk,h.tick,h.Sc⟩
theorem Gd (h:Wf s k):Wf (hJ s k).2.1 (hJ s k).2.2:=by
 grind [qr,qu,hJ,gL]
end
def rf (s:Rp) (j:Nat):Rp:={ s with Oy:=true,next:=List.replicate j s.Oz.length++s.next.drop j,OE:=List.replicate j 0++s.OE.drop j }
theorem zl (l:List Nat) (x j:Nat) (h:j<l.length):(List.replicate j x++l.drop j).set j x=List.replicate (j+1) x++l.drop (j+1):=by
 rw [List.set_append_right _ _ bL,jw,F6,dP h,uO,List.replicate_succ',bS];rfl
theorem EB (s:Rp) (j:Nat) (h1:j<s.next.length) (h2:j<s.OE.length):{ rf s j with next:=(rf s j).next.set j s.Oz.length,OE:=(rf s j).OE.set j 0 }=rf s (j+1):=by
 unfold rf;rw [zl _ _ _ h1,zl _ _ _ h2]
theorem Hk (s:Rp) (h1:s.next.length=s.n) (h2:s.OE.length=s.n):rf s s.n={ s with Oy:=true,next:=List.replicate s.n s.Oz.length,OE:=List.replicate s.n 0 }:=by
 unfold rf;rw [nH az,nH az,dq,dq]
structure PE (w w':World) (A X:List Nat) (r d l:Nat) (e:Ending) (p:List OM×Rp×Dk):Prop where
 ex:∃v A' X',e = .returned v/\Nd w' A' X' r d l p.2.1 p.2.2/\PG w' A' w.heap.size v p.1/\Mv A A' X X' w w'/\∀b,v.ownBlock=some b->b∉A'
section
variable {w w':World} {A A' X X':List Nat} {r d l:Nat} {s s':Rp} {k k':Dk}
theorem PE.none (h:Py w w' A X r d l s' k'):PE w w' A X r d l (.returned (.slice none 0 0)) ([],s',k'):=JN
theorem PE.trans {w'':World} {e:Ending} {p:List OM×Rp×Dk} (m:Mv A A' X X' w w') (h:PE w' w'' A' X' r d l e p):PE w w'' A X r d l e p:=by
 obtain ⟨v,A2,X2,he,h,ho,m2,hv⟩:=h;exact ⟨v,A2,X2,he,h,ho.mono m.mv.only.size,m.trans m2,hv⟩
theorem ip {v:Value} {ms:List OM} (h:Nd w A X r d l s k) (ho:PG w' A w.heap.size v ms) (hb:Below w.heap.size w w'):PE w w' A X r d l (.returned v) (ms,s,k) :=
 ⟨v,A,X,rfl,h.below hb,ho,Mv.below hb,λb hb2 hm=>by have:=(ho.lt b (by simp [hb2])).1;have:=h.alt b hm;omega⟩
theorem Hx (w:World) (A:List Nat):Qi w A (.slice none 0 0) []:=⟨none,0,rfl,hZ w,ah _,(λp hp=>by cases hp)⟩
theorem vX (h:Nd w A X r d l s k) (hw:Wf s k):Calls Tryz.prog 91 #[.pointer (some ⟨r,0,none⟩)] w λe w'=>PE w w' A X r d l e (hJ s k):=by
 have HW:=af hw;have HE:Hid (hJ s k=(let s1:Rp:={ s with Oy:=true,next:=List.replicate s.n s.Oz.length,OE:=List.replicate s.n 0 }
  let p:=gt s1 k ⟨s1.Ow,[]⟩
  if p.1 then (let s2:=(bZ p.2.1).2;(dB s2 (cF s2),s2,p.2.2)) else ([],p.2))):=af rfl
 have SQ:=af (Hk s hw.nl hw.ml);have HST:=af (λj (hj:j<s.n)=>EB s j (by rw [hw.nl];exact hj) (by rw [hw.ml];exact hj));have HLL:Hid (∀j,(rf s j).Oz=s.Oz/\(rf s j).n=s.n):=af (λj=>⟨rfl,rfl⟩);have UQ:Hid (∀j,j<=s.n->(rf s j).next.length=s.n/\(rf s j).OE.length=s.n):=af (λj hj=>by
  unfold rf;simp [hw.nl,hw.ml];omega)
 obtain ⟨vl,gv,gn,gm,gh,hcell⟩:=h.cells;have hz11:=aU hcell 11;have Qh:w.cell? ⟨r,11,none⟩=some (.bool s.Oy):=iI;have hc1:w.cell? ⟨r,1,none⟩=some (.int .i64 (s.n:Int)):=iI;have H0:Hid (Py w (w.setCell ⟨r,11,none⟩ (.bool true)) A X r d l (rf s 0) k):=af (by
  refine Nd.TV h ((Only.refl _ _).setCell bL _) ?_ rfl rfl rfl ?_ ?_ rfl
  ·intro vl gv gn gm gh hc;rw [be hc];rfl
  ·simp [rf]
  ·simp [rf])
 have hc1':(w.setCell ⟨r,11,none⟩ (.bool true)).cell? ⟨r,1,none⟩=some (.int .i64 (s.n:Int)):=by rw [ap (be hcell 11 _)];rfl
 have HW1:=af (qu hw);have O8:=hw.n5;have hlogb:=hw.QV;clear h hw hcell hc1;go_enter Tryz.func91,Tryz.ntmps91
 go_wp2_with fail
 go_loopw [11] (λi wr=>∃j:Nat,j<=s.n/\i = .int .i64 (j:Int)/\Py w wr A X r d l (rf s j) k) (λi _=>s.n - (intOf i).toNat)
 case atStart=>exact ⟨0,aH _,rfl,H0.out⟩
 case round =>
  obtain ⟨j,hj,rfl,hn⟩:=hrel;clear hc1' Qh hz11 H0;by_cases hlt:j<s.n
  ·obtain ⟨A1,X1,h1,m1⟩:=hn;obtain ⟨al,cl,RG,PH,hl2⟩:=h1.Qd;obtain ⟨D,L,R,vl,gv,gn,gm,gh,h2,hX2⟩:=h1;rw [(HLL.out j).1] at RG PH;have Tg:wr.cell? ⟨r,13,none⟩=some (.slice (some ⟨gn,0,none⟩) s.n s.n):=yf;have Te:wr.cell? ⟨r,14,none⟩=some (.slice (some ⟨gm,0,none⟩) s.n s.n):=yf;obtain ⟨PD,UE⟩:=UQ.out j hj;have UY:wr.cell? ⟨gn,j,none⟩=some (.int .i64 ((rf s j).next.getD j 0:Int)):=by rw [ap h2.next];exact iH _ _ (by rw [PD];exact hlt)
   have hcm:wr.cell? ⟨gm,j,none⟩=some (.int .i64 ((rf s j).OE.getD j 0:Int)):=by rw [ap h2.OE];exact iH _ _ (by rw [UE];exact hlt)
   have hzn:=aU h2.next j;have hzm:=aU h2.OE j;have hj3:(j:Int)<(s.n:Int):=az;have hj4:IntKind.i64.wrap ((j:Int)+1)=(j:Int)+1:=IntWalk.i64_in _ az;have HK1:Hid (∀w3,w3=(wr.setCell ⟨gn,j,none⟩ (.int .i64 (s.Oz.length:Int))).drew\/w3=((wr.setCell ⟨gn,j,none⟩ (.int .i64 (s.Oz.length:Int))).setCell ⟨gm,j,none⟩ (.int .i64 0)).drew->w3.cell? ⟨r,13,none⟩=some (.slice (some ⟨gn,0,none⟩) s.n s.n)/\w3.cell? ⟨r,14,none⟩=some (.slice (some ⟨gm,0,none⟩) s.n s.n)/\w3.cell? ⟨r,8,none⟩=some (.slice al s.Oz.length cl)):=af (λw3 e=>by
    have ho:Only [gn,gm] wr w3:=by
     rcases e with rfl | rfl
     ·exact ((Only.refl _ _).setCell bL _).drewN 1
     ·exact (((Only.refl _ _).setCell bL _).setCell bL _).drewN 1
    have hne:r∉[gn,gm]:=by
     have e1:=cQ h2.cell h2.next dZ;have e2:=cQ h2.cell h2.OE dZ;simp [e1,e2]
    exact ⟨ho.cell Tg hne,ho.cell Te hne,ho.cell RG hne⟩)
   have XL:Hid (∀w3,w3=((wr.setCell ⟨gn,j,none⟩ (.int .i64 (s.Oz.length:Int))).setCell ⟨gm,j,none⟩ (.int .i64 0)).drew->Py w w3 A X r d l (rf s (j+1)) k):=af (λw3 e=>by
    have h3:=((h2.U6 j s.Oz.length).WG j 0).below (aB _ 1);have e2:=HST.out j hlt;rw [e];refine Py.trans m1 (QK.ndpR (vl:=vl) (gv:=gv) (gn:=gn) (gm:=gm) (gh:=gh) (s':=rf s (j+1)) ?_ hX2 (S:=[gn,gm]) ((((Only.refl _ _).setCell bL _).setCell bL _).drewN 1) ?_)
    ·rw [<-e2];exact h3
    ·intro b hb;simp at hb;rcases hb with rfl | rfl
     ·exact h2.nR
     ·exact h2.mR)
   have hcm2:(wr.setCell ⟨gn,j,none⟩ (.int .i64 (s.Oz.length:Int))).cell? ⟨gm,j,none⟩=some (.int .i64 ((rf s j).OE.getD j 0:Int)):=((Only.refl [gn] wr).setCell (p:=⟨gn,j,none⟩) bL (.int .i64 (s.Oz.length:Int))).cell hcm (by simpa using h2.nm.symm);have hzm2:=aU (((Only.refl [gn] wr).setCell (p:=⟨gn,j,none⟩) bL (.int .i64 (s.Oz.length:Int))).keeps h2.OE (by simpa using h2.nm.symm)) j;clear m1 h2 hX2 hlt PD UE;generalize SD:s.Oz.length=sl at *;generalize ZI:s.n=n at *;generalize (rf s j).next.getD j 0=x0 at *;generalize (rf s j).OE.getD j 0=y0 at *;go_upto_region 5 with (fail)
   refine wp_region_held_drew (S:=λw'=>w'.cell? ⟨r,13,none⟩=some (.slice (some ⟨gn,0,none⟩) n n)/\w'.cell? ⟨r,14,none⟩=some (.slice (some ⟨gm,0,none⟩) n n)/\w'.cell? ⟨r,8,none⟩=some (.slice al sl cl)) dW ⟨Tg,Te,RG⟩ (λaD=>?_);refine aJ 0 ?_;refine aJ 1 ?_;refine aJ 2 ?_;refine aJ 3 ?_;refine aJ 4 ?_;refine aJ 5 ?_;refine aJ 6 ?_;refine aJ 7 ?_;refine aJ 8 ?_;refine aJ 9 ?_;refine aJ 10 ?_;refine aJ 11 ?_;refine aJ 12 ?_;refine aJ 13 ?_;refine aJ 14 ?_;refine aJ 15 ?_;refine dh 16 λK hK=>?_;go_simp
   refine hK.out _ _ (HK1.out _ (.inl rfl)) (λaD=>?_);clear hK K;refine bX ?_;refine aJ 17 ?_;refine dh 18 λK hK=>?_;go_simp
   refine hK.out _ _ (HK1.out _ (.inr rfl)) (λaD=>?_);clear hK K;refine bX ?_;refine iX ?_;clear aD;go_wp2_with fail
   go_roundw
   case rel=>exact ⟨j+1,by omega,rfl,XL.out _ rfl⟩
   case measure=>simp [intOf];omega
  ·have Vv:j=s.n:=by omega
   subst Vv;rw [SQ.out] at hn;obtain ⟨A1,X1,h1,m1⟩:=hn;have H1:=af h1;have M1:=af m1;have HP:=af (zq h1 HW1.out ⟨s.Ow,[]⟩ bL (.slice none 0 0) (Hx _ _));have ZV:=af (qr HW1.out ⟨s.Ow,[]⟩ bL);have Zi:=af (nT (s:={ s with Oy:=true,next:=List.replicate s.n s.Oz.length,OE:=List.replicate s.n 0 }) (k:=k) ⟨s.Ow,[]⟩);obtain ⟨vl,gv,gn,gm,gh,hcell⟩:=h1.cells;have Re:wr.cell? ⟨r,6,none⟩=some (.int .i64 s.Ow):=iI;clear h1 m1 hcell hlt;unfold wP at HP
   (try simp only at HE)
   generalize gt { s with Oy:=true,next:=List.replicate s.n s.Oz.length,OE:=List.replicate s.n 0 } k ⟨s.Ow,[]⟩=p at *;obtain ⟨ok,s2,k2⟩:=p
   (try simp only at HE);(try simp only at HP);(try simp only at ZV);(try simp only at Zi)
   cases ok with
   | false =>
    rw [am bL] at HE;go_wp2_with fail
    refine HP.out.mono ?_;rintro e w2 ⟨rfl,Pf⟩;have QT:=af (Pf.trans M1.out);clear Pf;go_wp2_with fail
    go_ret
    rw [HE.out];exact PE.none QT.out
   | true =>
    rw [ay rfl] at HE;go_wp2_with fail
    refine HP.out.mono ?_;rintro e w2 ⟨rfl,A2,X2,h2,m2⟩;have H2:=af h2;have M2:=af (M1.out.trans m2);clear h2 m2;go_wp2_with fail
    refine (my H2.out ZV.out).mono ?_;rintro e w3 ⟨rfl,A3,X3,h3,m3⟩;have H3:=af h3;have M3:=af (M2.out.trans m3);have SN:=af (gL ZV.out);have HL3:Hid ((bZ s2).2.Oy=true):=af (by
     obtain ⟨w0,d0,l0,e0⟩:=Zi.out;rw [kv,e0])
    clear h3 m3;generalize (bZ s2).1=ob at *;generalize (bZ s2).2=s3 at *;go_wp2_with fail
    refine (iA H3.out SN.out.n5 SN.out (λi _=>(SN.out.lead HL3.out i).1)).mono ?_;rintro e w4 ⟨v4,rfl,Rb,hb4⟩;have HF:=af (PE.trans M3.out (ip H3.out Rb hb4));clear Rb hb4;exact qW
end
theorem lZ {P:Program} (w:World) (t ty e:TypeId) (i:TypeInfo) (ht:P.underlying t=some (.slice e)) (hi:P.info? e=some i)
  (g off VH sCap:Nat) (cur:Array Value) (hg:w.heap[g]? = some (.cells cur e (0,0)))
  (a:Addr) (m c:Nat) (news:List Value) (hl:news.length=m*i.size) (hnews:∀j u,news[j]? = some u->w.cell? (a.add j)=some u) (h1:∀u∈news,u.oneCell'=true)
  (hroom:VH+m<=sCap) (O0:off+VH*i.size+news.length<=cur.size) :
  (Builtin.append_ #[t,t] ty #[.slice (some ⟨g,off,none⟩) VH sCap,.slice (some a) m c]).run P w =
   .ok (.slice (some ⟨g,off,none⟩) (VH+m) sCap) (w.setRow g (cur.toList.take (off+VH*i.size)++news++cur.toList.drop (off+VH*i.size+news.length)).toArray):=by
 have hf:=run_firstCells_some (P:=P) w i.size m a m c news hl hnews;have hst:=run_storeCells_at P g (off+VH*i.size) e news 0 cur w hg (by simpa using O0) h1;simp [Builtin.append_,run_underlying ht,sizeOf,typeInfo,hi,Builtin.lenOf,hroom,hf,Addr.add_lit,hst]
def uK (v:Value):Prop:=∀p n c,v = .slice (some p) n c->p.off=0
structure QAt (w:World) (A:List Nat) (cur:Array Value) (i:Nat) (m:OM):Prop where
 ex:∃v u,cur[i*5]? = some (.int .i64 m.OD)/\cur[i*5+1]? = some (.int .i64 m.dst)/\cur[i*5+2]? = some (.int .i64 m.kind)/\cur[i*5+3]? = some v/\cur[i*5+4]? = some u/\OU w A m v u
def Ue (w:World) (A Y:List Nat) (v:Value) (ms:List OM):Prop :=
 (v = .slice none 0 0/\ms=[])\/∃g off c cur,v = .slice (some ⟨g,off*5,none⟩) ms.length c/\ms.length<=c/\c<=9223372036854775807/\g∈Y/\w.heap[g]? = some (.cells cur 83 (0,0))/\(off+c)*5<=cur.size/\∀i,(h:i<ms.length)->QAt w A cur (off+i) ms[i]
section
variable {w w':World} {A A' Y Y':List Nat} {v:Value} {ms:List OM}
theorem QAt.step {cur:Array Value} {i:Nat} {m:OM} {S:List Nat} (h:QAt w A cur i m) (ho:Only S w w') (hS:∀b∈S,b∈A) (he:Ext A A' w):QAt w' A' cur i m:=by
 obtain ⟨v,u,h1,h2,h3,h4,h5,h6⟩:=h;exact ⟨v,u,h1,h2,h3,h4,h5,h6.step ho hS he⟩
theorem Ue.keep {S:List Nat} (h:Ue w A Y v ms) (ho:Only S w w') (hS:∀b∈S,b∈A) (hd:∀b∈Y,∀cur,w.heap[b]? = some (.cells cur 83 (0,0))->b∉S) (he:Ext A A' w) (hY:∀b∈Y,b∈Y'):Ue w' A' Y' v ms:=by
 rcases h with h | ⟨g,off,c,cur,h1,h2,h3,h4,h5,h6,h7⟩
 ·exact .inl h
 ·exact .inr ⟨g,off,c,cur,h1,h2,h3,hY g h4,ho.keeps h5 (hd g h4 cur h5),h6,λi hi=>(h7 i hi).step ho hS he⟩
theorem Ue.shape (h:Ue w A Y v ms):∃ao c,v = .slice ao ms.length c/\ms.length<=c/\c<=9223372036854775807/\(ao=none->c=0)/\∀p,ao=some p->∃g off,p=⟨g,off,none⟩:=by
 rcases h with ⟨rfl,rfl⟩ | ⟨g,off,c,cur,h1,h2,h3,_⟩
 ·exact ⟨none,0,rfl,ah _,by decide,λ_=>rfl,(λp hp=>by cases hp)⟩
 ·exact ⟨_,c,h1,h2,h3,(λe=>by cases e),(λp hp=>by cases hp;exact ⟨g,off*5,rfl⟩)⟩
structure QP (w w':World) (A Y:List Nat) (v':Value) (ms:List OM):Prop where
 ex:∃A' Y',Ue w' A' Y' v' ms/\Mv A A' Y Y' w w'/\(∀b∈A',b<w'.heap.size)/\(∀b∈Y',b∈A')/\(∀b∈Y',b∈Y\/(w.heap.size<=b/\∃cur,w'.heap[b]? = some (.cells cur 83 (0,0))))/\∃T,Only T w w'/\∀b∈T,b∈Y/\∃cur,w.heap[b]? = some (.cells cur 83 (0,0))
theorem Eb {m:OM} {mv mu:Value} (h:OU w A m mv mu):∀y∈[Value.int .i64 m.OD,.int .i64 m.dst,.int .i64 m.kind,mv,mu],y.oneCell'=true:=by
 intro y hy;simp only [cA,ki,or_false] at hy;rcases hy with rfl | rfl | rfl | rfl | rfl
 ·rfl
 ·rfl
 ·rfl
 ·exact h.one.1
 ·exact h.one.2
theorem QP.fresh {n cap:Nat} {cells:List Value} {ms':List OM} (hYA:∀b∈Y,b∈A) (hA:∀b∈A,b<w.heap.size) (rest:Array Value) (hn:n=ms'.length) (hcap:n<=cap) (Q5:cap<=9223372036854775807) (hsz:cap*5<=cells.length+rest.size)
  (hq:∀i,(h:i<ms'.length)->∃v u,cells[i*5]? = some (.int .i64 ms'[i].OD)/\cells[i*5+1]? = some (.int .i64 ms'[i].dst)/\cells[i*5+2]? = some (.int .i64 ms'[i].kind)/\cells[i*5+3]? = some v/\cells[i*5+4]? = some u/\OU w A ms'[i] v u) :
  QP w (w.drew.alloc (.cells (cells.toArray++rest) 83)) A Y (.slice (some ⟨w.heap.size,0,none⟩) n cap) ms':=by
 have hb:Below w.heap.size w (w.drew.alloc (.cells (cells.toArray++rest) 83)):=(aB w 1).alloc (ah _) _;have RY:(w.drew.alloc (.cells (cells.toArray++rest) 83)).heap[w.heap.size]? = some (.cells (cells.toArray++rest) 83 (0,0)):=aV w.drew _;have QG:Ext A (A++[w.heap.size]) w:=λb hb=>L7;refine ⟨A++[w.heap.size],Y++[w.heap.size],.inr ⟨w.heap.size,0,cap,_,by rw [Nat.zero_mul,hn],by omega,Q5,by simp,RY,by simp;omega,λi hi=>?_⟩,⟨⟨Only.OL hb Y,λb hb=>?_,λb hb=>aI _ hb⟩,QG,λb hb=>aI _ hb⟩,λb hb=>?_,λb hb=>?_,λb hb=>?_,[],Only.OL hb [],(λb hb=>by cases hb)⟩
 ·obtain ⟨v,u,h1,h2,h3,h4,h5,h6⟩:=hq i hi;have hg:∀{j:Nat} {x:Value},cells[j]? = some x->(cells.toArray++rest)[j]? = some x:=λ{j x} hj=>by
   have hlt:=(kM.1 hj).1;rw [fc (by simpa using hlt)];simpa using hj
  rw [cB];exact ⟨v,u,hg h1,hg h2,hg h3,hg h4,hg h5,h6.step (Only.OL hb []) (λb hb=>by cases hb) QG⟩
 ·exact L7
 ·rcases aA.1 hb with h | h
  ·exact aK (hA b h) bL
  ·rw [aj.1 h];simp
 ·rcases aA.1 hb with h | h
  ·exact aI _ (hYA b h)
  ·exact aR _ h
 ·rcases aA.1 hb with h | h
  ·exact .inl h
  ·rw [aj.1 h];exact .inr ⟨ah _,_,RY⟩
theorem FO (h:Ue w A Y v ms) (hYA:∀b∈Y,b∈A) (hA:∀b∈A,b<w.heap.size) {H:Nat} {m:OM} {mv mu:Value} (hH:w.heap[H]? = some (.cells #[.int .i64 m.OD,.int .i64 m.dst,.int .i64 m.kind,mv,mu] 83 (0,0))) (hm:OU w A m mv mu) (hb:ms.length<=1000000) (ty:TypeId) :
  ∃v' w',(Builtin.append_ #[64,64] ty #[v,.slice (some ⟨H,0,none⟩) 1 1]).run Tryz.prog w = .ok v' w'/\QP w w' A Y v' (ms++[m])/\(uK v->uK v'):=by
 obtain ⟨i0,Q4,hz0,hz1,hz2⟩:=info_parts yv;have hnews:∀j x,([Value.int .i64 m.OD,.int .i64 m.dst,.int .i64 m.kind,mv,mu]:List Value)[j]? = some x->w.cell? ((⟨H,0,none⟩:Addr).add j)=some x:=by
  intro j x hj;rw [Addr.add_lit,cB,ap hH]
  match j,hj with
  | 0,hj=>simpa using hj
  | 1,hj=>simpa using hj
  | 2,hj=>simpa using hj
  | 3,hj=>simpa using hj
  | 4,hj=>simpa using hj
  | j+5,hj=>simp at hj
 rcases h with ⟨rfl,rfl⟩ | ⟨g,off,c,cur,rfl,h2,h3,h4,h5,h6,h7⟩
 ·have hr:=run_append_nil (P:=Tryz.prog) (w:=w) 64 ty 83 i0 (.agg #[.int .i64 0,.int .i64 0,.int .i64 0,.slice none 0 0,.slice none 0 0]) Tryz.underlying64 Q4 hz0 ⟨H,0,none⟩ 1 1 [.int .i64 m.OD,.int .i64 m.dst,.int .i64 m.kind,mv,mu] Ej hnews az az Bm;refine ⟨_,_,hr,QP.fresh hYA hA _ rfl (by simpa using grownCap_ge w 1 0 83) (aF (grownCap_le_maxLen w 1 0 83 kE) kE) ?_ (λi hi=>?_),λ_ p n c e=>by cases e;rfl⟩
  ·rw [size_zeroCells];simp [Value.cells];omega
  ·obtain rfl:i=0:=by simp at hi;omega
   exact ⟨mv,mu,rfl,rfl,rfl,rfl,rfl,hm⟩
 ·have UH:∀j x,((cur.toList.drop (off*5)).take (ms.length*5))[j]? = some x->cur[off*5+j]? = some x:=λj x hj=>by
   rw [fz] at hj;split at hj
   ·rw [Oe,ft] at hj;exact hj
   ·cases hj
  have Sv:∀{j:Nat} {x:Value},j<ms.length*5->cur[off*5+j]? = some x->((cur.toList.drop (off*5)).take (ms.length*5))[j]? = some x:=λ{j x} hj hx=>by
   rw [fz,ay hj,Oe,ft];exact hx
  have Up:((cur.toList.drop (off*5)).take (ms.length*5)).length=ms.length*5:=by
   simp only [aQ,cH,sq];omega
  by_cases hroom:ms.length+1<=c
  ·have hr:=lZ (P:=Tryz.prog) w 64 ty 83 i0 Tryz.underlying64 Q4 g (off*5) ms.length c cur h5 ⟨H,0,none⟩ 1 1 [.int .i64 m.OD,.int .i64 m.dst,.int .i64 m.kind,mv,mu] Ej hnews (Eb hm) hroom (by rw [hz1];simp;omega);rw [hz1] at hr;refine ⟨_,_,hr,⟨A,Y,.inr ⟨g,off,c,_,by simp,by simpa using hroom,h3,h4,setRow_heap _ _ _ _ _ _ h5,by simp;omega,λi hi=>?_⟩,Mv.only (eo _ _ _) (λb hb=>by rw [aj.1 hb];exact h4),λb hb=>by simpa using hA b hb,hYA,λb hb=>.inl hb,[g],eo _ _ _,λb hb=>by rw [aj.1 hb];exact ⟨h4,cur,h5⟩⟩,λh0 p n c e=>by cases e;exact h0 _ _ _ rfl⟩;have hst:Only [g] w (w.setRow g (cur.toList.take (off*5+ms.length*5)++[.int .i64 m.OD,.int .i64 m.dst,.int .i64 m.kind,mv,mu]++cur.toList.drop (off*5+ms.length*5+([.int .i64 m.OD,.int .i64 m.dst,.int .i64 m.kind,mv,mu]:List Value).length)).toArray):=eo _ _ _;have hgA:∀b∈[g],b∈A:=λb hb=>by rw [aj.1 hb];exact hYA g h4
   by_cases hlt:i<ms.length
   ·have e:(ms++[m])[i]=ms[i]:=by simp [z8,hlt]
    rw [e];obtain ⟨v,u,k1,k2,k3,k4,k5,k6⟩:=h7 i hlt;have hg:∀{j:Nat} {x:Value},j<off*5+ms.length*5->cur[j]? = some x->(cur.toList.take (off*5+ms.length*5)++[.int .i64 m.OD,.int .i64 m.dst,.int .i64 m.kind,mv,mu]++cur.toList.drop (off*5+ms.length*5+([.int .i64 m.OD,.int .i64 m.dst,.int .i64 m.kind,mv,mu]:List Value).length)).toArray[j]? = some x:=λ{j x} hj hx=>by
     have hl:(cur.toList.take (off*5+ms.length*5)).length=off*5+ms.length*5:=by simp only [aQ,sq];omega
     rw [jx,bS,dN (by rw [hl];exact hj),fz,ay hj,ft];exact hx
    exact ⟨v,u,hg az k1,hg az k2,hg az k3,hg az k4,hg az k5,k6.step hst hgA (Ext.refl _ _)⟩
   ·obtain rfl:i=ms.length:=by simp at hi;omega
    have e:(ms++[m])[ms.length]=m:=bL;rw [e];have hg:∀(j:Nat),j<5->(cur.toList.take (off*5+ms.length*5)++[.int .i64 m.OD,.int .i64 m.dst,.int .i64 m.kind,mv,mu]++cur.toList.drop (off*5+ms.length*5+([.int .i64 m.OD,.int .i64 m.dst,.int .i64 m.kind,mv,mu]:List Value).length)).toArray[(off+ms.length)*5+j]? = ([Value.int .i64 m.OD,.int .i64 m.dst,.int .i64 m.kind,mv,mu]:List Value)[j]? := λj hj=>by
     have hl:(cur.toList.take (off*5+ms.length*5)).length=off*5+ms.length*5:=by simp only [aQ,sq];omega
     rw [jx,bS,gz (by rw [hl];omega),hl,show (off+ms.length)*5+j - (off*5+ms.length*5)=j by omega,dN (by simpa using hj)]
    exact ⟨mv,mu,hg 0 az,hg 1 az,hg 2 az,hg 3 az,hg 4 az,hm.step hst hgA (Ext.refl _ _)⟩
  ·have hc:c=ms.length:=by omega
   subst hc;have hr:=run_append_grow (P:=Tryz.prog) (w:=w) 64 ty 83 i0 (.agg #[.int .i64 0,.int .i64 0,.int .i64 0,.slice none 0 0,.slice none 0 0]) Tryz.underlying64 Q4 hz0 ⟨g,off*5,none⟩ ms.length ms.length ((cur.toList.drop (off*5)).take (ms.length*5)) (by rw [hz1];exact Up)
    (λj x hj=>by rw [Addr.add_lit,ap h5];exact UH j x hj) ⟨H,0,none⟩ 1 1 [.int .i64 m.OD,.int .i64 m.dst,.int .i64 m.kind,mv,mu] Ej hnews az az (growslice_fits az Bm)
   have eT:((cur.toList.drop (off*5)).take (ms.length*5)).toArray++([.int .i64 m.OD,.int .i64 m.dst,.int .i64 m.kind,mv,mu]:List Value).toArray=((cur.toList.drop (off*5)).take (ms.length*5)++[.int .i64 m.OD,.int .i64 m.dst,.int .i64 m.kind,mv,mu]).toArray:=by
    apply Array.ext';simp
   rw [eT] at hr;refine ⟨_,_,hr,QP.fresh (ms':=ms++[m]) hYA hA _ (by rw [aE];rfl) (grownCap_ge w (ms.length+1) ms.length 83) (aF (grownCap_le_maxLen w (ms.length+1) ms.length 83 kE) kE) ?_ (λi hi=>?_),λ_ p n c e=>by cases e;rfl⟩
   ·rw [size_zeroCells,aE,Up];simp [Value.cells];omega
   ·by_cases hlt:i<ms.length
    ·have e:(ms++[m])[i]=ms[i]:=by simp [z8,hlt]
     rw [e];obtain ⟨v,u,k1,k2,k3,k4,k5,k6⟩:=h7 i hlt;have hg:∀{j:Nat} {x:Value},j<ms.length*5->cur[off*5+j]? = some x->((cur.toList.drop (off*5)).take (ms.length*5)++[.int .i64 m.OD,.int .i64 m.dst,.int .i64 m.kind,mv,mu])[j]? = some x:=λ{j x} hj hx=>by
      rw [dN (by rw [Up];exact hj)];exact Sv hj hx
     have q:(off+i)*5=off*5+i*5:=az;rw [q] at k1 k2 k3 k4 k5;exact ⟨v,u,hg az k1,hg az k2,hg az k3,hg az k4,hg az k5,k6⟩
    ·obtain rfl:i=ms.length:=by simp at hi;omega
     have e:(ms++[m])[ms.length]=m:=bL;rw [e];have hg:∀(j:Nat),j<5->((cur.toList.drop (off*5)).take (ms.length*5)++[.int .i64 m.OD,.int .i64 m.dst,.int .i64 m.kind,mv,mu])[ms.length*5+j]? = ([Value.int .i64 m.OD,.int .i64 m.dst,.int .i64 m.kind,mv,mu]:List Value)[j]? := λj hj=>by
      rw [gz (by rw [Up];omega),Up,show ms.length*5+j - ms.length*5=j by omega]
     exact ⟨mv,mu,hg 0 az,hg 1 az,hg 2 az,hg 3 az,hg 4 az,hm⟩
theorem kN {ops:Array Oper} {rest:List Oper} {o:Oper} {a:Act} {Q:Exit->Act->World->Prop} (hgd:o.guard=none) (sx x:Operand)
  (ho:o.op = .call { callee:=.builtin .append,args:=#[sx,x],argTypes:=#[64,64]})
  (h:Ue w A Y v ms) (hYA:∀b∈Y,b∈A) (hA:∀b∈A,b<w.heap.size) {H:Nat} {m:OM} {mv mu:Value} (hH:w.heap[H]? = some (.cells #[.int .i64 m.OD,.int .i64 m.dst,.int .i64 m.kind,mv,mu] 83 (0,0))) (hm:OU w A m mv mu) (hb:ms.length<=1000000)
  (hs:a.eval sx=v) (hx:a.eval x = .slice (some ⟨H,0,none⟩) 1 1)
  (hk:∀v' w',QP w w' A Y v' (ms++[m])->(uK v->uK v')->wpList Tryz.prog ops Q rest (a.put o.dst v') w'):wpList Tryz.prog ops Q (o::rest) a w:=by
 obtain ⟨v',w',hr,h2,h3⟩:=FO h hYA hA hH hm hb o.type;refine wpList_plain hgd λK hK=>?_;unfold Oper.wp;simp [execOp,ho,resolve,invoke,builtin,hs,hx,hr,Result.andThen];exact hK _ _ (hk _ _ h2 h3)
end
section
variable {w w':World} {A A' Y Y':List Nat} {v:Value} {ms:List OM}
end
abbrev Pn:=List ((Int×Int)×Bool)
structure Pv (w:World) (A Y:List Nat) (nb mb:Nat) (n:Nat) (qv:Value) (q:List OM) (es:Pn):Prop where
 RL:w.heap[nb]? = some (eD (n:Int) 2000 qv mb)
 cut:IsCut w mb es
 q:Ue w A Y qv q
 z:uK qv
 nY:nb∈Y
 mY:mb∈Y
 yA:∀b∈Y,b∈A
 alt:∀b∈A,b<w.heap.size
structure Sz (w w':World) (A Y:List Nat) (nb n:Nat) (mb:Nat) (q:List OM) (es:Pn):Prop where
 ex:∃A' Y' Q8 qv,Pv w' A' Y' nb Q8 n qv q es/\Mv A A' Y Y' w w'/\(∀b∈Y',b∈Y\/w.heap.size<=b)/\(Q8=mb\/w.heap.size<=Q8)/\∃T,Only T w w'/\∀b∈T,b∈Y/\(b=nb\/b=mb\/∃cur,w.heap[b]? = some (.cells cur 83 (0,0)))
section
variable {w w' w2:World} {A A' Y Y':List Nat} {nb mb n:Nat} {qv:Value} {q q2:List OM} {es es2:Pn}
theorem Pv.keep {T:List Nat} (h:Pv w A Y nb mb n qv q es) (ho:Only T w w') (hT:∀b∈T,b∈A) (hY:∀b∈Y,b∉T) (he:Ext A A' w) (hs:∀b∈A,b∈A') (ha:∀b∈A',b<w'.heap.size):Pv w' A' Y nb mb n qv q es :=
 ⟨ho.keeps h.RL (hY _ h.nY),h.cut.only ho (hY _ h.mY),h.q.keep ho hT (λb hb _ _=>hY b hb) he (λb hb=>hb),h.z,h.nY,h.mY,λb hb=>hs b (h.yA b hb),ha⟩
theorem Pv.below (h:Pv w A Y nb mb n qv q es) (hb:Below w.heap.size w w'):Pv w' A Y nb mb n qv q es :=
 h.keep (Only.OL hb []) (λb hb=>by cases hb) (λb _=>by simp) (Ext.refl _ _) (λb hb=>hb) (λb hb2=>aK (h.alt b hb2) hb.size)
theorem Pv.ntp (h:Pv w A Y nb mb n qv q es) (hb:Below w.heap.size w w'):Sz w w' A Y nb n mb q es :=
 ⟨A,Y,mb,qv,h.below hb,Mv.below hb,λb hb=>.inl hb,.inl rfl,[],Only.OL hb [],λb hb=>by cases hb⟩
theorem Pv.setq {v':Value} {q':List OM} (h:Pv w A Y nb mb n qv q es) (hp:QP w w' A Y v' q') (hz:uK v'):Sz w (w'.setCell ⟨nb,2,none⟩ v') A Y nb n mb q' es:=by
 obtain ⟨A',Y',hq,hm,ha,hyA,hyn,T,ZL,hT⟩:=hp;have hne:nb∉T:=λhm=>by
  grind [eD,h.RL]
 have hmT:mb∉T:=λhm=>JI;have hc1:=ZL.keeps h.RL hne;have P8:Only [nb] w' (w'.setCell ⟨nb,2,none⟩ v'):=(Only.refl _ _).setCell bL _;have hc2:(w'.setCell ⟨nb,2,none⟩ v').heap[nb]? = some (eD (n:Int) 2000 v' mb):=by
  rw [be hc1];rfl
 have hnY':nb∈Y':=hm.mv.sub nb h.nY;have TS:mb≠nb:=λe=>Ji;refine ⟨A',Y',mb,v',⟨hc2,(h.cut.only ZL hmT).only P8 (by simpa using TS),hq.keep P8 (λb hb=>by rw [aj.1 hb];exact hyA _ hnY') (λb hb cur Sv hm=>?_) (Ext.refl _ _) (λb hb=>hb),hz,hnY',hm.mv.sub mb h.mY,hyA,λb hb=>by simpa using ha b hb⟩,
  hm.trans (Mv.only P8 (λb hb=>by rw [aj.1 hb];exact hnY')),λb hb=>(hyn b hb).imp id (λg=>g.1),.inl rfl,nb::T,(ZL.mono (λb hb=>aM _ hb)).setCell (p:=⟨nb,2,none⟩) bL v',λb hb=>?_⟩
 ·grind [aj.1,eD]
 ·grind [h.nY]
theorem Pv.recut {es':Pn} (h:Pv w A Y nb mb n qv q es) (ho:Only [mb] w w') (hc:IsCut w' mb es'):Sz w w' A Y nb n mb q es':=by
 have TS:∀{b:Nat} {cs:Array Value} {t:TypeId} {fr:Nat×Nat},w.heap[b]? = some (.cells cs t fr)->b∉[mb]:=λ{b cs t fr} hb hm=>by
  obtain ⟨arr,c,h1,_⟩:=h.cut.map;rw [aj.1 hm,h1] at hb;cases hb
 have hsz:=ho.size;exact ⟨A,Y,mb,qv,⟨ho.keeps h.RL (TS h.RL),hc,h.q.keep ho (λb hb=>by rw [aj.1 hb];exact h.yA _ h.mY) (λb _ cur Sv=>TS Sv) (Ext.refl _ _) (λb hb=>hb),h.z,h.nY,h.mY,h.yA,λb hb=>aK (h.alt b hb) hsz⟩,Mv.only ho (λb hb=>by rw [aj.1 hb];exact h.mY),λb hb=>.inl hb,.inl rfl,[mb],ho,λb hb=>by rw [aj.1 hb];exact ⟨h.mY,.inr (.inl rfl)⟩⟩
end
section
variable {w w':World} {A Y:List Nat} {nb mb n:Nat} {qv:Value} {q:List OM} {es:Pn}
theorem Pv.shape (h:Pv w A Y nb mb n qv q es):∃ao c,qv = .slice ao q.length c/\w.heap[nb]? = some (eD (n:Int) 2000 (.slice ao q.length c) mb):=by
 obtain ⟨ao,c,e,_⟩:=h.q.shape;have:=h.RL;rw [e] at this;exact ⟨ao,c,e,this⟩
theorem Sz.later {w3:World} {q2:List OM} {es2:Pn} (h:Pv w A Y nb mb n qv q es) (hb:Below w.heap.size w w3) (g:Sz w3 w' A Y nb n mb q2 es2):Sz w w' A Y nb n mb q2 es2:=by
 obtain ⟨A2,Y2,mb2,RS,h2,m2,y2,e2,T2,o2,t2⟩:=g;refine ⟨A2,Y2,mb2,RS,h2,(Mv.below hb).trans m2,λb hb2=>(y2 b hb2).imp id (aF hb.size),e2.imp id (aF hb.size),T2,(Only.OL hb T2).trans o2,λb hbT=>?_⟩;obtain ⟨k1,k2⟩:=t2 b hbT;have:=hb.block b (h.alt b (h.yA b k1));rw [this] at k2;exact ⟨k1,k2⟩
theorem Pv.newmap (h:Pv w A Y nb mb n qv q es) (v:Value) (hv:v = .map (some w.heap.size)):Sz w ((w.alloc (.map #[] 0)).setCell ⟨nb,3,none⟩ v) A Y nb n mb q []:=by
 subst hv;have hb1:Below w.heap.size w (w.alloc (.map #[] 0)):=(aG _ _).alloc (ah _) _;have o2:Only [nb] (w.alloc (.map #[] 0)) ((w.alloc (.map #[] 0)).setCell ⟨nb,3,none⟩ (.map (some w.heap.size))):=(Only.refl _ _).setCell bL _;have oo:Only [nb] w ((w.alloc (.map #[] 0)).setCell ⟨nb,3,none⟩ (.map (some w.heap.size))):=(Only.OL hb1 [nb]).trans o2;have hlt:=bg h.RL;have hcut:=(IsCut.new w).only o2 gD;have Qk:((w.alloc (.map #[] 0)).setCell ⟨nb,3,none⟩ (.map (some w.heap.size))).heap[nb]? = some (eD (n:Int) 2000 qv w.heap.size):=by
  have h1:=bD h.RL (.map #[] 0);unfold eD at h1;rw [be h1];rfl
 have hs2:((w.alloc (.map #[] 0)).setCell ⟨nb,3,none⟩ (.map (some w.heap.size))).heap.size=w.heap.size+1:=bL;have hnq:∀b∈Y,∀cur,w.heap[b]? = some (.cells cur 83 (0,0))->b∉[nb]:=λb _ cur Sv hm=>by
  grind [aj.1,eD,h.RL]
 have QG:Ext A (A++[w.heap.size]) w:=λb hb=>by
  grind
 refine ⟨A++[w.heap.size],Y++[w.heap.size],w.heap.size,qv,⟨Qk,hcut,h.q.keep oo (λb hb=>by rw [aj.1 hb];exact h.yA _ h.nY) hnq QG (λb hb=>aI _ hb),h.z,aI _ h.nY,by simp,λb hb=>?_,λb hb=>?_⟩,⟨⟨oo.mono (λb hb=>by rw [aj.1 hb];exact h.nY),λb hb=>?_,λb hb=>aI _ hb⟩,QG,λb hb=>aI _ hb⟩,λb hb=>?_,.inr (ah _),[nb],oo,λb hb=>by rw [aj.1 hb];exact ⟨h.nY,.inl rfl⟩⟩
 ·grind [h.yA]
 ·rcases aA.1 hb with g | g
  ·have:=h.alt b g;omega
  ·rw [aj.1 g];omega
 ·grind
 ·grind
theorem Bg (h:Pv w A Y nb mb n qv q es):Calls Tryz.prog 31 #[.pointer (some ⟨nb,0,none⟩)] w λe w'=>e = .returned (.tuple #[])/\Sz w w' A Y nb n mb q []:=by
 have TS:=@run_makeMap Tryz.prog;have H1:=h.RL;unfold eD at H1;have hA:=bD H1 (.map #[] 0);have hc3:(w.alloc (.map #[] 0)).cell? ⟨nb,3,none⟩=some (.map (some mb)):=by rw [ap hA];rfl
 have hf3:=aU hA 3;have HF:=af (h.newmap _ rfl);clear h hA H1;go_enter Tryz.func31,Tryz.ntmps31
 exact D6
theorem CU {x y:Int} (hx:0<=x/\x<(n:Int)) (hy:0<=y/\y<(n:Int)) (hn:n<=5):J6 (oJ x y):=by
 grind [J6,oJ]
theorem DS (h:Pv w A Y nb mb n qv q es) (x y:Int) (b:Bool) (hx:0<=x/\x<(n:Int)) (hy:0<=y/\y<(n:Int)) (hn:n<=5) :
  Calls Tryz.prog 46 #[.pointer (some ⟨nb,0,none⟩),.int .i64 x,.int .i64 y,.bool b] w λe w'=>e = .returned (.tuple #[])/\Sz w w' A Y nb n mb q (ew es (oJ x y) b):=by
 obtain ⟨ao,c,_,Qk⟩:=h.shape;have Ri:=af (od Qk x);have QT:=af (od Qk y);rw [aO hx.1,aO hx.2] at Ri;rw [aO hy.1,aO hy.2] at QT;have WK:=CU hx hy hn;have Zn:=af h;have h1:=h.RL;unfold eD at h1;have hc3:w.cell? ⟨nb,3,none⟩=some (.map (some mb)):=rU;clear hx hy h1 Qk h;go_enter Tryz.func46,Tryz.ntmps46
 go_wp2_with fail
 refine Ri.out.mono ?_;rintro e w1 ⟨rfl,rfl⟩;go_wp2_with fail
 refine QT.out.mono ?_;rintro e w1 ⟨rfl,rfl⟩;go_wp2_with fail
 go_region_with (go_at_call 77;refine (tE x y _).mono ?_;rintro e w3 ⟨rfl,hb3⟩;have hc33:=cell_later (w:=w.drew) hb3 hc3;have Ye:=Zn.out.below (show Below w.heap.size w w3 from ⟨hb3.os,hb3.tape,hb3.output,hb3.size,hb3.block⟩);obtain ⟨w4,hrun,hcut,ho⟩:=tS Ye.cut (oJ x y) WK b)
 all_goals
  have hb':Below w.heap.size w w3:=⟨hb3.os,hb3.tape,hb3.output,hb3.size,hb3.block⟩
  have HF:Hid (Sz w w4 A Y nb n mb q (ew es (oJ x y) b)):=af (Sz.later Zn.out hb' (Ye.recut ho hcut));clear hb3 hc33 Ye hrun hcut ho hb';exact D6
end
theorem Ue.at {w:World} {A Y:List Nat} {v:Value} {ms:List OM} (h:Ue w A Y v ms) (j:Nat) (hj:j<ms.length):∃g off c mv mu,v = .slice (some ⟨g,off,none⟩) ms.length c/\ms.length<=c/\w.cell? ⟨g,off+j*5,none⟩=some (.int .i64 ms[j].OD)/\w.cell? ⟨g,off+j*5+1,none⟩=some (.int .i64 ms[j].dst)/\w.cell? ⟨g,off+j*5+2,none⟩=some (.int .i64 ms[j].kind)/\w.cell? ⟨g,off+j*5+3,none⟩=some mv/\w.cell? ⟨g,off+j*5+4,none⟩=some mu/\OU w A ms[j] mv mu:=by
 rcases h with ⟨rfl,rfl⟩ | ⟨g,off,c,cur,h1,h2,h3,h4,h5,h6,h7⟩
 ·cases hj
 ·obtain ⟨v,u,k1,k2,k3,k4,k5,k6⟩:=h7 j hj;have q:(off+j)*5=off*5+j*5:=az;rw [q] at k1 k2 k3 k4 k5;exact ⟨g,off*5,c,v,u,h1,h2,by rw [ap h5];exact k1,by rw [ap h5];exact k2,by rw [ap h5];exact k3,by rw [ap h5];exact k4,by rw [ap h5];exact k5,k6⟩
def dt:Obj:=.cells #[.int .i64 0,.int .i64 0,.int .i64 0,.slice none 0 0,.slice none 0 0] 83
theorem iB {w:World} {H:Nat} (h:w.heap[H]? = some dt):(w.cell? ⟨H,0,none⟩=some (.int .i64 0)/\w.cell? ⟨H,1,none⟩=some (.int .i64 0)/\w.cell? ⟨H,2,none⟩=some (.int .i64 0)/\w.cell? ⟨H,3,none⟩=some (.slice none 0 0)/\w.cell? ⟨H,4,none⟩=some (.slice none 0 0)) /\
  w.frozen? ⟨H,0,none⟩=false/\w.frozen? ⟨H,1,none⟩=false/\w.frozen? ⟨H,2,none⟩=false/\w.frozen? ⟨H,3,none⟩=false/\w.frozen? ⟨H,4,none⟩=false:=by
 unfold dt at h;exact ⟨⟨by rw [ap h];rfl,by rw [ap h];rfl,by rw [ap h];rfl,by rw [ap h];rfl,by rw [ap h];rfl⟩,aU h 0,aU h 1,aU h 2,aU h 3,aU h 4⟩
theorem zg:(Tryz.prog.info? 83).map (·.size)=some 5:=dW
theorem gH {fn:Func} {p u:Tmp} (h:fn.results=#[.cell p 83,.tmp u]) (tmps:Array Value) (w:World) (g:Nat) (c0 c1 c2 c3 c4 x:Value)
  (hp:tmps.getD p undef = .pointer (some ⟨g,0,none⟩)) (hx:tmps.getD u undef=x) (hg:w.heap[g]? = some (.cells #[c0,c1,c2,c3,c4] 83 (0,0))) :
  (results fn tmps).run Tryz.prog w = .ok (.tuple #[.agg #[c0,c1,c2,c3,c4],x]) w:=by
 have hl:=run_loadVar_row (P:=Tryz.prog) w g 83 83 #[c0,c1,c2,c3,c4] (0,0) _ hg Tryz.underlying83 rfl zg;rw [results_cell_tmp h,hp,hx];simp [asAddr,hl,Result.andThen]
theorem PB.less {w:World} {A A':List Nat} {v:Value} {l:List Int} (h:PB w A' v l) (hs:∀b∈A,b∈A'):PB w A v l:=by
 obtain ⟨ao,c,h1,h2,h3,h4,h5⟩:=h;exact ⟨ao,c,h1,h2,h3,h4,λp hp=>⟨λhm=>(h5 p hp).1 (hs _ hm),(h5 p hp).2⟩⟩
theorem PV.less {w:World} {A A':List Nat} {v:Value} {ls:List (List UInt8)} (h:PV w A' v ls) (hs:∀b∈A,b∈A'):PV w A v ls:=by
 rcases h with h | ⟨g,c,cur,h1,h2,h3,h4,h5,h6⟩
 ·exact .inl h
 ·refine .inr ⟨g,c,cur,h1,h2,h3,λhm=>h4 (hs _ hm),h5,λi hi=>?_⟩;obtain ⟨u,k1,k2⟩:=h6 i hi;exact ⟨u,k1,k2.mono hs⟩
theorem OU.less {w:World} {A A':List Nat} {m:OM} {v u:Value} (h:OU w A' m v u) (hs:∀b∈A,b∈A'):OU w A m v u:=⟨h.n.less hs,h.b.less hs⟩
theorem zV (w:World) (A:List Nat):Ext A (A++[w.heap.size]) w:=λb hb=>by
 rcases aA.1 hb with h1 | h1
 ·exact .inl h1
 ·exact .inr (by rw [aj.1 h1];exact ah _)
def og:OM:=⟨0,0,0,[],[]⟩
section
variable {w w':World} {A Y:List Nat} {nb mb n:Nat} {qv:Value} {q:List OM} {es:Pn}
theorem DU (h:Pv w A Y nb mb n qv q es) (x:Int) (hx:(decide (0<=x)&&decide (x<(q.length:Int)))=false) :
  Calls Tryz.prog 69 #[.pointer (some ⟨nb,0,none⟩),.int .i64 x] w λe w'=>e = .returned (.tuple #[en og (.slice none 0 0) (.slice none 0 0),.bool false])/\Below w.heap.size w w':=by
 obtain ⟨ao,c,_,Qk⟩:=(h.below ((aG _ _).alloc (ah _) dt)).shape;have HH:=af (jY Qk x);rw [hx] at HH;unfold dt at HH;clear h hx Qk;have hz:=iB (aV w dt);obtain ⟨⟨z0,z1,z2,z3,z4⟩,f0,f1,f2,f3,f4⟩:=hz;unfold dt at z0 z1 z2 z3 z4 f0 f1 f2 f3 f4;go_enter Tryz.func69,Tryz.ntmps69
 go_wp2_with fail
 refine HH.out.mono ?_;rintro e w1 ⟨rfl,rfl⟩;go_wp2_with fail
 (try simp only [Exit.inBlock,Exit.then])
 exact bodyPost_ret (gH (fn:=Tryz.f69) rfl _ _ w.heap.size _ _ _ _ _ _ rfl rfl (aV _ _)) rfl ⟨rfl,(aG _ _).alloc (ah _) _⟩
theorem DT (h:Pv w A Y nb mb n qv q es) (k:Nat) (hk:k<q.length) (hl:q.length<=1000000) (hm:jt q[k]) :
  Calls Tryz.prog 69 #[.pointer (some ⟨nb,0,none⟩),.int .i64 (k:Int)] w λe w'=>∃v u,e = .returned (.tuple #[en q[k] v u,.bool true])/\OU w' A q[k] v u/\Below w.heap.size w w':=by
 have h':=h.below ((aG _ _).alloc (ah _) dt);obtain ⟨ao,c,eqv,Qk⟩:=h'.shape;have HH:=af (jY Qk (k:Int));rw [aO (show (0:Int)<=k by omega),aO (show (k:Int)<(q.length:Int) by omega)] at HH;have hbz:Below w.heap.size w (w.alloc dt):=(aG _ _).alloc (ah _) dt;have hq':=h.q.keep (A':=A++[w.heap.size]) (Y':=Y) (Only.OL hbz []) (λb hb=>by cases hb) (λb _ _ _=>by simp) (zV w A) (λb hb=>hb);obtain ⟨g,off,cc,mv,mu,eq2,hcc,e0,e1,e2,e3,e4,Td⟩:=hq'.at k hk;rw [eq2] at eqv;cases eqv;have c2:(w.alloc dt).cell? ⟨nb,2,none⟩=some (.slice (some ⟨g,off,none⟩) q.length c):=by
  unfold eD at Qk;rw [ap Qk];rfl
 have HA:Hid (∀b∈A++[w.heap.size],b<(w.alloc dt).heap.size):=af (λb hb=>by
  rcases aA.1 hb with g | g
  ·exact aK (h.alt b g) bL
  ·rw [aj.1 g];simp)
 have HC:=af (ng q[k] mv mu _ Td hm HA.out);have HZ:=af (aV w dt);have VV:(k:Int)<(q.length:Int):=az;obtain ⟨a1,b1,rfl,_⟩:=Td.n;have hmu:∃a b c,mu = .slice a b c:=by
  rcases Td.b with ⟨rfl,_⟩ | ⟨_,_,_,rfl,_⟩
  ·exact ⟨_,_,_,rfl⟩
  ·exact ⟨_,_,_,rfl⟩
 obtain ⟨a2,b2,c2',rfl⟩:=hmu;unfold dt at HH e0 e1 e2 e3 e4 c2 HC;clear h h' Qk eq2 hcc Td hm hq' hbz;generalize q[k]=x at *;generalize q.length=ql at *;unfold en at HC ⊢;go_enter Tryz.func69,Tryz.ntmps69
 go_wp2_with fail
 refine HH.out.mono ?_;rintro e w1 ⟨rfl,rfl⟩;go_wp2_with fail
 refine HC.out.mono ?_;rintro e w2 ⟨v,u,rfl,hown,hb⟩;have hz2:w2.heap[w.heap.size]? = some dt:=bA hb bL HZ.out;have HZ2:=af hz2;have hb':Below w.heap.size w w2:=((aG _ _).alloc (ah _) dt).trans (hb.mono bL);have HB:=af hb';obtain ⟨a3,c3,rfl,_⟩:=id hown.n;have hu:∃a b c,u = .slice a b c:=by
  rcases hown.b with ⟨rfl,_⟩ | ⟨_,_,_,rfl,_⟩
  ·exact ⟨_,_,_,rfl⟩
  ·exact ⟨_,_,_,rfl⟩
 obtain ⟨a4,b4,c4,rfl⟩:=hu;have HO:=af hown;clear hown hb hb' hz2 e0 e1 e2 e3 e4 c2;go_wp2_with (refine wpList_store_row rfl 83 (.tmp 4) (.tmp 18) rfl w.heap.size #[.int .i64 x.OD,.int .i64 x.dst,.int .i64 x.kind,.slice a3 x.N.length c3,.slice a4 b4 c4] rfl rfl 83 _ HZ2.out zg rfl (gP _ _ _ _ _ _ _ _ _) ?_)
 have HHP:=af (setRow_heap _ w.heap.size _ #[.int .i64 x.OD,.int .i64 x.dst,.int .i64 x.kind,.slice a3 x.N.length c3,.slice a4 b4 c4] 83 (0,0) HZ2.out);have P8:Only [w.heap.size] w2 (w2.setRow w.heap.size #[.int .i64 x.OD,.int .i64 x.dst,.int .i64 x.kind,.slice a3 x.N.length c3,.slice a4 b4 c4]):=eo _ _ _
 (try simp only [Exit.inBlock,Exit.then])
 refine bodyPost_ret (gH (fn:=Tryz.f69) rfl _ _ w.heap.size _ _ _ _ _ _ rfl rfl HHP.out) rfl ⟨_,_,rfl,?_,HB.out.trans (P8.below HB.out.size bL)⟩;exact (HO.out.step P8 (λb hb=>aR _ hb) (Ext.refl _ _)).less (λb hb=>aI _ hb)
end
end Go.Proofs.YtnhefallmioefaaGreat
