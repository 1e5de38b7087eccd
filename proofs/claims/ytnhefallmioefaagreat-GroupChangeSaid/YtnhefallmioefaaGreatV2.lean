/-
  What the proof of the law leans on: contracts of the program's functions, one behind another. No condition.
-/
import Derived.Test.YtnhefallmioefaaGreatV0
import Derived.Deep.RegionWith
import Derived.Deep.DrawnRows
import Derived.Laws.IdiomRangeMap
import Derived.Test.YtnhefallmioefaaGreatV1
set_option linter.unusedVariables false
set_option linter.unusedSimpArgs false
namespace Go.Proofs.YtnhefallmioefaaGreat.F
open Go.Proofs.YtnhefallmioefaaGreat
open Go.RowKit
set_option maxHeartbeats 1000000 in
theorem zH (n:Nat) (w:World) (hn:n<=70368744177664) :
  Calls Tryz.prog 112 #[.slice none 0 0,.int .i64 (n:Int)] w λe w'=>∃v',e = .returned v'/\OwnB w' w.heap.size 5 v' []/\Below w.heap.size w w':=by
 by_cases h0:n=0
 ·subst h0;go_enter Tryz.func112,Tryz.ntmps112
  go_wp2_with fail
  go_ret
  exact ⟨_,rfl,OwnB.nil _ _ _,az _ _⟩
 ·obtain ⟨i0,hi0,hz0,hz1,hz2⟩:=info_parts iI;have hold:(Builtin.firstCells i0.size 0 (.slice none 0 0)).run Tryz.prog w.drew = .ok (#[]:Array Value) w.drew:=run_firstCells_none w.drew i0.size 0 0 0;have hfit:Builtin.nextslicecap (0+n) 0*i0.bytes<=281474976710656:=by
   refine growslice_fits (by omega) ?_;rw [hz2];omega
  have hrz:=λty=>Lib.run_append_grow_zeros w 31 3 ty 5 i0 (.int .u8 0) .i64 .i64 Tryz.underlying31 Tryz.underlying3 hi0 hz0 none 0 0 [] hold n (by omega) (by omega) (by omega) (by omega) (by rw [hz2];omega) hfit;rw [cy] at hrz;have hge:=grownCap_ge w n 0 5;have hle:=grownCap_le_maxLen w n 0 5 (by unfold maxLen;omega);have hcs:((([]:List Value).toArray++Builtin.zeroCells (Value.int .u8 0).cells n++Builtin.zeroCells (Value.int .u8 0).cells (grownCap w n 0 5 - n)):Array Value).size=grownCap w n 0 5:=by
   simp [Builtin.zeroCells,Value.cells];omega
  generalize ([]:List Value).toArray++Builtin.zeroCells (Value.int .u8 0).cells n++Builtin.zeroCells (Value.int .u8 0).cells (grownCap w n 0 5 - n)=cur at hrz hcs;generalize grownCap w n 0 5=G at hrz hge hle hcs;have HC:=ab hcs;have HR:=ab hrz;clear hfit hold hcs hrz hi0 hz0 hz1 hz2;unfold maxLen at hle;have g0:(0:Int)<(n:Int):=by omega
  go_enter Tryz.func112,Tryz.ntmps112
  go_wp2_with (at_builtin;refine Lib.wpList_append_run _ rfl _ _ _ _ rfl _ _ rfl rfl _ _ (HR.out _) ?_)
  go_ret
  refine ⟨_,rfl,⟨by simp,.inr ⟨_,_,_,rfl,ah _,aK w.drew _,by simp,by unfold maxLen;omega,by simpa using HC.out,by simp⟩⟩,((az _ _).drew).alloc (ah _) _⟩
theorem sd (ls:List (List UInt8)) (k:Nat) (h:k<ls.length):(ls.take (k+1)).flatten.length=(ls.take k).flatten.length+(ls.getD k []).length:=by
 rw [lz ls k h,ay]
theorem uR (ls:List (List UInt8)) (k:Nat):(ls.take k).flatten.length<=ls.flatten.length:=by
 have:=DL List.length (DL List.flatten (dh k ls));rw [List.flatten_append,ay] at this;omega
set_option maxHeartbeats 1000000 in
theorem t6 (b off len cap:Nat) (ls:List (List UInt8)) (w:World) (hlen:ls.length=len) (hm:ls.flatten.length<=70368744177664) (hl9:len<=1000)
  (hc:∀i,i<len->∃a n c,w.cell? ⟨b,off+i,none⟩=some (.slice a n c)/\IsB w a n c (ls.getD i [])/\n<=140737488351232) :
  Calls Tryz.prog 105 #[.slice (some ⟨b,off,none⟩) len cap] w λe w'=>∃v',e = .returned v'/\OwnB w' w.heap.size 5 v' ls.flatten/\Below w.heap.size w w':=by
 have HC:=ab hc;clear hc;have HL:=ab hlen;clear hlen;go_enter Tryz.func105,Tryz.ntmps105
 go_wp2_with fail
 go_loop [3,11] (λc i=>∃k:Nat,k<=len/\i = .int .i64 (k:Int)/\c = .int .i64 (((ls.take k).flatten.length:Nat):Int)) (λ_ i=>len - (intOf i).toNat)
 case atStart=>exact ⟨0,aH _,rfl,rfl⟩
 case round =>
  obtain ⟨k,hk,rfl,rfl⟩:=hrel;by_cases hlt:k<len
  ·obtain ⟨a,n,c,hcell,hb,hn⟩:=HC.out k hlt;have hfl:=sd ls k (by rw [HL.out];exact hlt);have hbl:=hb.len;have hle:=uR ls (k+1);rw [hbl] at hfl;rw [hfl] at hle;generalize (ls.take k).flatten.length=q at hfl hle;have HF:=ab hfl;have hq:q+n<=70368744177664:=by omega
   clear hb hfl hbl hle;go_wp2_with fail
   go_round
   case rel=>exact ⟨k+1,by omega,by go_num,by rw [HF.out];go_num⟩
   case measure=>simp [intOf];omega
  ·obtain rfl:k=len:=by omega
   rw [aZ (by rw [HL.out];exact ah _)];generalize hq:ls.flatten.length=q at hm;have HQ:=ab hq;clear hq;go_wp2_with fail
   refine (zH q _ hm).mono ?_;rintro e w1 ⟨v1,rfl,hown1,hb1⟩;have HO:=ab hown1;clear hown1;go_wp2_with fail
   go_loopw [6,27] (λv i wr=>∃j:Nat,j<=k/\i = .int .i64 (j:Int)/\OwnB wr w.heap.size 5 v (ls.take j).flatten/\Below w.heap.size w wr) (λ_ i _=>k - (intOf i).toNat)
   case atStart=>exact ⟨0,aH _,rfl,HO.out,hb1⟩
   case round =>
    clear hb1 HO;obtain ⟨j,hj,rfl,hown,hbl⟩:=hrel;by_cases hlt2:j<k
    ·obtain ⟨a,n,c,hcell0,hb,hn⟩:=HC.out j hlt2;have hcell:=cell_later hbl hcell0;have hfl:=sd ls j (by rw [HL.out];exact hlt2);have hft:=lz ls j (by rw [HL.out];exact hlt2);have hbn:=hb.len;have hle:=uR ls (j+1);have hz:=hbl.size;have hc1:(ls.take j).flatten.length+n<=140737488355328:=by rw [hbn] at hfl;rw [HQ.out] at hle;omega
     have HB:=ab (hb.below hbl);have HT:=ab hft;have HO:=ab hown;clear hb hfl hft hbn hle hown hcell0;go_wp2_with (at_builtin;refine cJ rfl _ _ 31 rfl w.heap.size 5 Tryz.underlying31 iI _ _ rfl HO.out _ _ _ _ rfl HB.out hc1 hz ?_;intro v2 w2 hown2 hgr2 hb2;clear hgr2)
     go_roundw
     case rel=>exact ⟨j+1,by omega,by go_num,by rw [HT.out];exact hown2,hbl.trans hb2⟩
     case measure=>simp [intOf];omega
    ·obtain rfl:j=k:=by omega
     rw [aZ (by rw [HL.out];exact ah _)] at hown;go_wp2_with fail
     go_ret
     exact ⟨_,rfl,hown,hbl⟩
def d7 (rec:List UInt8):List UInt8:=lw (BitVec.ofNat 32 rec.length)++lw (~~~ (BitVec.ofNat 32 rec.length))
def bV (rec:List UInt8):List UInt8:=d7 rec++lw (Crc.si (d7 rec++rec))++rec
theorem jR (rec:List UInt8):(d7 rec).length=8:=rfl
theorem cX (rec:List UInt8):(bV rec).length=12+rec.length:=by
 unfold bV;rw [ay,ay,jR,mJ]
theorem ly (w:World) (a1:Option Addr) (n1 c1:Nat) (l1:List UInt8) (h1:IsB w a1 n1 c1 l1) (m1:n1<=140737488351232) (a2:Option Addr) (n2 c2:Nat) (l2:List UInt8) (h2:IsB w a2 n2 c2 l2) (m2:n2<=140737488351232) (t:TypeId) (fr:Nat×Nat) (H:Nat) (hH:H=w.heap.size) :
  ∀i,i<2->∃a n c,(w.alloc (.cells #[.slice a1 n1 c1,.slice a2 n2 c2] t fr)).cell? ⟨H,0+i,none⟩=some (.slice a n c)/\IsB (w.alloc (.cells #[.slice a1 n1 c1,.slice a2 n2 c2] t fr)) a n c ([l1,l2].getD i [])/\n<=140737488351232:=by
 subst hH;intro i hi;rcases (by omega:i=0\/i=1) with rfl | rfl
 ·exact ⟨a1,n1,c1,by rw [World.cell?_alloc_mark];rfl,h1.alloc _,m1⟩
 ·exact ⟨a2,n2,c2,by rw [World.cell?_alloc_mark];rfl,h2.alloc _,m2⟩
theorem pX {w:World} {base:Nat} {e:TypeId} {v:Value} {l:List UInt8} (h:OwnB w base e v l) (n:Nat) (hn:l.length=n) :
  ∃ao c,v = .slice ao n c/\IsB w ao n c l:=by
 subst hn;exact h.isB
theorem C8 (m:Nat) (h:m<4294967296):((BitVec.ofNat 32 m).toNat:Int)=(m:Int):=by
 rw [jT,Nat.mod_eq_of_lt (by omega)]
set_option maxHeartbeats 1000000 in
theorem tr (ao:Option Addr) (n c:Nat) (B:List UInt8) (ar:Option Addr) (m cr:Nat) (rec:List UInt8) (w:World) (h:IsB w ao n c B) (hr:IsB w ar m cr rec) (hn:n<=1099511627776) (hm:m<=20000) :
  Calls Tryz.prog 86 #[.slice ao n c,.slice ar m cr] w λe w'=>∃v',e = .returned (.tuple #[v',.int .i64 0])/\OwnB w' w.heap.size 5 v' (B++bV rec)/\Below w.heap.size w w':=by
 have hlr:=hr.len;have hlB:=h.len;have HB:=ab h;clear h;have HR:=ab hr;clear hr;have hc:=C8 m (by omega);have hnot:=ny (BitVec.ofNat 32 m);rw [hc] at hnot;have HN:=ab hnot;clear hnot;have HC:=ab hc;clear hc;have HL:=ab hlr;clear hlr;have HLB:=ab hlB;clear hlB;go_enter Tryz.func86,Tryz.ntmps86
 go_wp2_with fail
 rw [<-HC.out];refine (kv w.heap.size (.slice none 0 0) [] (BitVec.ofNat 32 m) w (OwnB.nil _ _ _) (by decide) (ah _)).mono ?_;rw [HC.out];rintro e w1 ⟨v1,rfl,hown1,hb1⟩;rw [cL] at hown1;have HO1:=ab hown1;clear hown1;have hsg:¬(IntKind.u32.signed=true):=by decide
 go_wp2_with fail
 rw [HN.out];refine (kv w.heap.size v1 _ (~~~ (BitVec.ofNat 32 m)) w1 HO1.out (by rw [mJ];decide) hb1.size).mono ?_;rintro e w2 ⟨v2,rfl,hown2,hb2⟩;have hhd:lw (BitVec.ofNat 32 m)++lw (~~~ (BitVec.ofNat 32 m))=d7 rec:=by unfold d7;rw [HL.out]
 rw [hhd] at hown2;clear hhd;obtain ⟨a2,c2,rfl,hbs2⟩:=pX hown2 8 (jR _);have hB2:Below w.heap.size w w2:=hb1.trans hb2;have hz2:=hB2.size;have H2:=ab (ly w2 ao n c B (HB.out.below hB2) (by omega) a2 8 c2 (d7 rec) hbs2 (by decide) 31 (0,0) w2.heap.size rfl);have HS2:=ab hbs2;clear hown2 hbs2 hb1 hb2 HO1;go_wp2_with fail
 refine (t6 w2.heap.size 0 2 2 [B,d7 rec] _ rfl (by simp only [List.flatten_cons,List.flatten_nil,ay,gM,jR,HLB.out];omega) (by decide) H2.out).mono ?_;rintro e w3 ⟨v3,rfl,hown3,hb3⟩;have hz3:w.heap.size<=w3.heap.size:=by have:=hb3.size;simp at this;omega
 have hB3:Below w.heap.size w w3:=(hB2.alloc hz2 _).trans (hb3.mono (by simp;omega));have hS3:=(HS2.out.alloc (.cells #[.slice ao n c,.slice a2 8 c2] 31)).below hb3;rw [show [B,d7 rec].flatten=B++d7 rec from by simp] at hown3;have H3:=ab (ly w3 a2 8 c2 (d7 rec) hS3 (by decide) ar m cr rec (HR.out.below hB3) (by omega) 31 (0,0) w3.heap.size rfl);have HO3:=ab (hown3.mono (base':=w.heap.size) (by simp;omega));clear hown3 hb3 hS3 H2 HS2 hB2 hz2;go_wp2_with fail
 refine (uC 2 [d7 rec,rec] w3.heap.size 0 2 _ rfl (by decide) H3.out).mono ?_;rintro e w4 ⟨rfl,rfl⟩;rw [show [d7 rec,rec].flatten=d7 rec++rec from by simp];go_wp2_with fail
 have hB4:Below w.heap.size w (w3.alloc (.cells #[.slice a2 8 c2,.slice ar m cr] 31)):=hB3.alloc hz3 _;have hl4:(B++d7 rec).length<=70368744177664:=by rw [ay,jR,HLB.out];omega
 refine (kv w.heap.size v3 _ (Crc.si (d7 rec++rec)) _ (HO3.out.alloc _) hl4 (by simp;omega)).mono ?_;rintro e w5 ⟨v5,rfl,hown5,hb5⟩;have hB5:Below w.heap.size w w5:=hB4.trans hb5;have hl5:(B++d7 rec++lw (Crc.si (d7 rec++rec))).length+m<=140737488355328:=by
  rw [ay,mJ];omega
 have HR5:=ab (HR.out.below hB5);have HO5:=ab hown5;have HF:Hid ((B++d7 rec++lw (Crc.si (d7 rec++rec)))++rec=B++bV rec):=ab (by unfold bV;simp only [bD]);generalize B++d7 rec++lw (Crc.si (d7 rec++rec))=B5 at HF HO5 hl5;clear H3 HO3 hB3 hB4 hl4 hown5 hb5 hz3;have hz5:=hB5.size;go_wp2_with (at_builtin;refine cJ rfl _ _ 31 rfl w.heap.size 5 Tryz.underlying31 iI _ _ rfl HO5.out _ _ _ _ rfl HR5.out hl5 hz5 ?_;intro v6 w6 hown6 hgr6 hb6;clear hgr6)
 go_ret2
 exact ⟨_,rfl,by rw [<-HF.out];exact hown6,hB5.trans hb6⟩
set_option maxHeartbeats 400000 in
theorem yC (ao:Option Addr) (n c:Nat) (ar:Option Addr) (m cr:Nat) (w:World) (hm:20000<m) (hm9:m<=140737488351232) :
  Calls Tryz.prog 86 #[.slice ao n c,.slice ar m cr] w λe w'=>e = .returned (.tuple #[.slice none 0 0,.int .i64 2])/\w=w':=by
 go_enter Tryz.func86,Tryz.ntmps86
 go_wp2_with fail
 go_ret2
 exact ⟨rfl,rfl⟩
attribute [local go_sem ↓] Go.wp_at_zero Go.wp_at_succ
def d6 (l:List UInt8):Nat×Nat :=
 if l.length<12 then (0,1)
 else if jk l 4 ≠ ~~~ (jk l 0)\/20000<(jk l 0).toNat then (0,2)
 else if l.length<12+(jk l 0).toNat then (0,1)
 else if Crc.si (l.take 8++(l.drop 12).take (jk l 0).toNat)≠jk l 8 then (0,2)
 else (12+(jk l 0).toNat,0)
theorem C7 (a b:BitVec 32):((a.toNat:Int) != (b.toNat:Int))=decide (a≠b):=by
 by_cases h:a=b
 ·subst h;simp
 ·have:¬(a.toNat:Int)=(b.toNat:Int):=λe=>h (BitVec.eq_of_toNat_eq (by omega));rw [aJ (show a≠b from h),qz];exact this
theorem pv {B:Nat} {w w':World} (h:Below B w w') (o:Obj) {w2:World} (hh:w2.heap=(w'.alloc o).heap) (ho:w2.os=w'.os) (ht:w2.tape=w'.tape) (hp:w2.output=w'.output) (hB:B<=w'.heap.size:=by omega):Below B w w2:=by
 have h2:=h.alloc hB o;exact ⟨ho.trans h.os,ht.trans h.tape,hp.trans h.output,by rw [hh];exact h2.size,λk hk=>by rw [hh];exact h2.block k hk⟩
theorem jG {B:Nat} {w w':World} (h:Below B w w') (n:Nat):Below B w (w'.drewN n):=⟨h.os,h.tape,h.output,h.size,h.block⟩
def Dm (r:Bool) (k:Nat) (e:Ending):Prop:=e = .returned (if r then .tuple #[.int .i64 0,.int .i64 2] else .tuple #[.int .i64 (12+(k:Int)),.int .i64 0])
set_option maxHeartbeats 1000000 in
theorem yT (b off n c k:Nat) (l:List UInt8) (nx x8 y:BitVec 32) (w:World) (hn:n<=70368744177664) (hnc:n<=c) (h12:12<=n) (hk:k<=20000) (hkn:12+k<=n) (hc:c=12)
  (HB:Hid (IsB w (some ⟨b,off,none⟩) n c l)) (HX:Hid (bits BinOp.xor IntKind.u32 IntKind.u32.max (k:Int)=(nx.toNat:Int)))
  (A0:Hid (∀w',IsB w' (some ⟨b,off,none⟩) n c l->Calls Tryz.prog 101 #[.slice (some ⟨b,off,none⟩) n c,.int .i64 0] w' λe w''=>∃d,e = .returned (.int .u32 (k:Int))/\w''=w'.drewN d))
  (A4:Hid (∀w',IsB w' (some ⟨b,off,none⟩) n c l->Calls Tryz.prog 101 #[.slice (some ⟨b,off,none⟩) n c,.int .i64 4] w' λe w''=>∃d,e = .returned (.int .u32 (nx.toNat:Int))/\w''=w'.drewN d))
  (A8:Hid (∀w',IsB w' (some ⟨b,off,none⟩) n c l->Calls Tryz.prog 101 #[.slice (some ⟨b,off,none⟩) n c,.int .i64 8] w' λe w''=>∃d,e = .returned (.int .u32 (x8.toNat:Int))/\w''=w'.drewN d))
  (A2H:Hid (∀w',w'.heap=(w.alloc (.cells #[.slice (some ⟨b,off,none⟩) 8 c,.slice (some ⟨b,off,none⟩) 0 0] 31)).heap ->
   Calls Tryz.prog 102 #[.slice (some ⟨w.heap.size,0,none⟩) 2 2] w' λe w''=>e = .returned (.int .u32 (y.toNat:Int))/\w'=w'')) (r:Bool) (hcr:((y.toNat:Int) != (x8.toNat:Int))=r) :
  Calls Tryz.prog 84 #[.slice (some ⟨b,off,none⟩) n c] w λe w'=>Dm r k e/\Below w.heap.size w w':=by
 have hsg:¬(IntKind.u32.signed=true):=by decide
 have g1:((nx.toNat:Int) != (nx.toNat:Int))=false:=by simp
 have g2:(12:Int)<=(n:Int):=by omega
 have g3:(k:Int)<=20000:=by omega
 have g4:12+(k:Int)<=(n:Int):=by omega
 subst hc;have q1:12+(k:Int)<=12:=by omega
 have q2:(12:Int)<=max (12+(k:Int)) 0:=by omega
 go_enter Tryz.func84,Tryz.ntmps84
 go_wp2_with fail
 refine (A0.out _ HB.out).mono ?_;rintro e w1 ⟨d1,rfl,rfl⟩;go_wp2_with fail
 refine (A4.out _ (by exact HB.out.heapw rfl)).mono ?_;rintro e w1 ⟨d2,rfl,rfl⟩;have hx:=HX.out;go_wp2_with fail
 clear hx;go_region_with (first
  | (go_at_call 101;refine (A8.out _ (by first | exact HB.out.heapw rfl | exact (HB.out.alloc _).heapw rfl)).mono ?_;rintro e w3 ⟨d3,rfl,rfl⟩)
  | (go_at_call 102;refine (A2H.out _ (by exact rfl)).mono ?_;rintro e w3 ⟨rfl,rfl⟩))
 all_goals cases r
 all_goals go_wp2_with fail
 all_goals go_ret2
 all_goals exact ⟨rfl,pv (az _ _) _ rfl rfl rfl rfl⟩
set_option maxHeartbeats 1000000 in
theorem ws (b off n c k:Nat) (l:List UInt8) (nx x8 y:BitVec 32) (w:World) (hn:n<=70368744177664) (hnc:n<=c) (h12:12<=n) (hk:k<=20000) (hkn:12+k<=n) (hc12:¬c=12)
  (HB:Hid (IsB w (some ⟨b,off,none⟩) n c l)) (HX:Hid (bits BinOp.xor IntKind.u32 IntKind.u32.max (k:Int)=(nx.toNat:Int)))
  (A0:Hid (∀w',IsB w' (some ⟨b,off,none⟩) n c l->Calls Tryz.prog 101 #[.slice (some ⟨b,off,none⟩) n c,.int .i64 0] w' λe w''=>∃d,e = .returned (.int .u32 (k:Int))/\w''=w'.drewN d))
  (A4:Hid (∀w',IsB w' (some ⟨b,off,none⟩) n c l->Calls Tryz.prog 101 #[.slice (some ⟨b,off,none⟩) n c,.int .i64 4] w' λe w''=>∃d,e = .returned (.int .u32 (nx.toNat:Int))/\w''=w'.drewN d))
  (A8:Hid (∀w',IsB w' (some ⟨b,off,none⟩) n c l->Calls Tryz.prog 101 #[.slice (some ⟨b,off,none⟩) n c,.int .i64 8] w' λe w''=>∃d,e = .returned (.int .u32 (x8.toNat:Int))/\w''=w'.drewN d))
  (A2H:Hid (∀w',w'.heap=(w.alloc (.cells #[.slice (some ⟨b,off,none⟩) 8 c,.slice (some ⟨b,off+12,none⟩) k (c - 12)] 31)).heap ->
   Calls Tryz.prog 102 #[.slice (some ⟨w.heap.size,0,none⟩) 2 2] w' λe w''=>e = .returned (.int .u32 (y.toNat:Int))/\w'=w'')) (r:Bool) (hcr:((y.toNat:Int) != (x8.toNat:Int))=r) :
  Calls Tryz.prog 84 #[.slice (some ⟨b,off,none⟩) n c] w λe w'=>Dm r k e/\Below w.heap.size w w':=by
 have hsg:¬(IntKind.u32.signed=true):=by decide
 have g1:((nx.toNat:Int) != (nx.toNat:Int))=false:=by simp
 have g2:(12:Int)<=(n:Int):=by omega
 have g3:(k:Int)<=20000:=by omega
 have g4:12+(k:Int)<=(n:Int):=by omega
 go_enter Tryz.func84,Tryz.ntmps84
 go_wp2_with fail
 refine (A0.out _ HB.out).mono ?_;rintro e w1 ⟨d1,rfl,rfl⟩;go_wp2_with fail
 refine (A4.out _ (by exact HB.out.heapw rfl)).mono ?_;rintro e w1 ⟨d2,rfl,rfl⟩;have hx:=HX.out;go_wp2_with fail
 clear hx;go_region_with (first
  | (go_at_call 101;refine (A8.out _ (by first | exact HB.out.heapw rfl | exact (HB.out.alloc _).heapw rfl)).mono ?_;rintro e w3 ⟨d3,rfl,rfl⟩)
  | (go_at_call 102;refine (A2H.out _ (by exact rfl)).mono ?_;rintro e w3 ⟨rfl,rfl⟩))
 all_goals cases r
 all_goals go_wp2_with fail
 all_goals go_ret2
 all_goals exact ⟨rfl,pv (az _ _) _ rfl rfl rfl rfl⟩
set_option maxHeartbeats 1000000 in
theorem kV (ao:Option Addr) (n c:Nat) (l:List UInt8) (w:World) (h:IsB w ao n c l) (hn:n<=70368744177664) (hnc:n<=c) :
  Calls Tryz.prog 84 #[.slice ao n c] w λe w'=>e = .returned (.tuple #[.int .i64 ((d6 l).1:Int),.int .i64 ((d6 l).2:Int)])/\Below w.heap.size w w':=by
 have hlen:=h.len;by_cases h1:n<12
 ·have hs:d6 l=(0,1):=by unfold d6;rw [aA (by omega)]
  rw [hs];go_enter Tryz.func84,Tryz.ntmps84
  go_wp2_with fail
  go_ret2
  exact ⟨rfl,az _ _⟩
 obtain ⟨b,off,rfl⟩:∃b off,ao=some ⟨b,off,none⟩:=by
  rcases h.at_ with h0 | ⟨b,off,h0,_⟩
  ·omega
  ·exact ⟨b,off,h0⟩
 have HB:=ab h;clear h;have HL:=ab hlen;clear hlen;have hx:=ny (jk l 0);have hne:=C7 (jk l 4) (~~~ (jk l 0));have hnx:d6 l=if jk l 4 ≠ ~~~ (jk l 0)\/20000<(jk l 0).toNat then (0,2)
   else if n<12+(jk l 0).toNat then (0,1)
   else if Crc.si (l.take 8++(l.drop 12).take (jk l 0).toNat)≠jk l 8 then (0,2)
   else (12+(jk l 0).toNat,0):=by
  unfold d6;rw [HL.out,aw (by omega)]
 have ha0:=λw' (hw:IsB w' (some ⟨b,off,none⟩) n c l)=>uf _ n c l 0 w' hw hn (by omega);have ha4:=λw' (hw:IsB w' (some ⟨b,off,none⟩) n c l)=>uf _ n c l 4 w' hw hn (by omega);have ha8:=λw' (hw:IsB w' (some ⟨b,off,none⟩) n c l)=>uf _ n c l 8 w' hw hn (by omega);generalize jk l 0=x0 at *;generalize jk l 4=x4 at *;generalize jk l 8=x8 at *;have HX:=ab hx;clear hx;have HNE:=ab hne;clear hne;have A0:=ab ha0;clear ha0;have A4:=ab ha4;clear ha4;have A8:=ab ha8;clear ha8;have hsg:¬(IntKind.u32.signed=true):=by decide
 by_cases e4:x4 = ~~~ x0
 ·have hne:=HNE.out;rw [aW (show ¬(x4 ≠ ~~~ x0) from λh=>h e4)] at hne;have g4:((x4.toNat:Int) != bits BinOp.xor IntKind.u32 IntKind.u32.max (x0.toNat:Int))=false:=by rw [HX.out];exact hne
  clear hne HNE;by_cases g5:20000<x0.toNat
  ·rw [aA (.inr g5)] at hnx;rw [hnx];clear hnx e4;have g6:decide ((20000:Int)<(x0.toNat:Int))=true:=by simp;omega
   go_enter Tryz.func84,Tryz.ntmps84
   go_wp2_with fail
   refine (A0.out _ HB.out).mono ?_;rintro e w1 ⟨d1,rfl,rfl⟩;go_wp2_with fail
   refine (A4.out _ (by exact HB.out.heapw rfl)).mono ?_;rintro e w1 ⟨d2,rfl,rfl⟩;go_wp2_with fail
   go_ret2
   exact ⟨rfl,jG (az _ _) _⟩
  rw [aw (by simp only [not_or];exact ⟨λh=>h e4,g5⟩)] at hnx;by_cases g7:n<12+x0.toNat
  ·rw [aA g7] at hnx;rw [hnx];clear hnx e4;have g6:decide ((20000:Int)<(x0.toNat:Int))=false:=by simp;omega
   generalize x0.toNat=k at *;go_enter Tryz.func84,Tryz.ntmps84
   go_wp2_with fail
   refine (A0.out _ HB.out).mono ?_;rintro e w1 ⟨d1,rfl,rfl⟩;go_wp2_with fail
   refine (A4.out _ (by exact HB.out.heapw rfl)).mono ?_;rintro e w1 ⟨d2,rfl,rfl⟩;go_wp2_with fail
   go_ret2
   exact ⟨rfl,jG (az _ _) _⟩
  rw [aw g7] at hnx;subst e4;clear g4;generalize ~~~ x0=nx at HX A4;generalize x0.toNat=k at *;have A2:∀(a2:Option Addr) (n2 c2:Nat),IsB w a2 n2 c2 ((l.drop 12).take k)->n2<=140737488351232->∀w',w'.heap=(w.alloc (.cells #[.slice (some ⟨b,off,none⟩) 8 c,.slice a2 n2 c2] 31)).heap ->
    Calls Tryz.prog 102 #[.slice (some ⟨w.heap.size,0,none⟩) 2 2] w' λe w''=>e = .returned (.int .u32 ((Crc.si (l.take 8++(l.drop 12).take k)).toNat:Int))/\w'=w'':=by
   intro a2 n2 c2 h2 hm2 w' hw';have h3:=ly w (some ⟨b,off,none⟩) 8 c (l.take 8) (la HB.out 8 (by omega)) (by decide) a2 n2 c2 _ h2 hm2 31 (0,0) w.heap.size rfl;have h4:=uC 2 [l.take 8,(l.drop 12).take k] w.heap.size 0 2 w' rfl (by decide) (λi hi=>by
    obtain ⟨a,n,c,q1,q2,q3⟩:=h3 i hi;exact ⟨a,n,c,(World.cell?_of_block (by rw [hw'])).trans q1,q2.heapw hw',q3⟩)
   rw [show [l.take 8,(l.drop 12).take k].flatten=l.take 8++(l.drop 12).take k from by simp] at h4;exact h4
  have hcr:=C7 (Crc.si (l.take 8++(l.drop 12).take k)) x8;generalize Crc.si (l.take 8++(l.drop 12).take k)=y at A2 hcr hnx;have hfin:∀e:Ending,Dm (decide (y≠x8)) k e->e = .returned (.tuple #[.int .i64 ((d6 l).1:Int),.int .i64 ((d6 l).2:Int)]):=by
   intro e he;rw [hnx];unfold Dm at he;by_cases hy:y=x8
   ·rw [aW (λh=>h hy)] at he;rw [aw (λh=>h hy),he];simp
   ·rw [aJ hy] at he;rw [aA hy,he];simp
  by_cases hc12:c=12
  ·have hz:IsB w (some ⟨b,off,none⟩) 0 0 ((l.drop 12).take k):=by
    obtain rfl:k=0:=by omega
    rw [List.take_zero];exact nH 0
   exact (yT b off n c k l nx x8 y w hn hnc (by omega) (by omega) (by omega) hc12 HB HX A0 A4 A8 (ab (A2 _ _ _ hz (by omega))) _ hcr).mono λe w' ⟨h1,h2⟩=>⟨hfin e h1,h2⟩
  ·have hz:IsB w (some ⟨b,off+12,none⟩) k (c - 12) ((l.drop 12).take k):=la (jy HB.out 12 (c - 12) (by omega)) k (by omega);exact (ws b off n c k l nx x8 y w hn hnc (by omega) (by omega) (by omega) hc12 HB HX A0 A4 A8 (ab (A2 _ _ _ hz (by omega))) _ hcr).mono λe w' ⟨h1,h2⟩=>⟨hfin e h1,h2⟩
 ·have hne:=HNE.out;rw [aJ (show x4 ≠ ~~~ x0 from e4)] at hne;have g4:((x4.toNat:Int) != bits BinOp.xor IntKind.u32 IntKind.u32.max (x0.toNat:Int))=true:=by rw [HX.out];exact hne
  rw [aA (.inl e4)] at hnx;rw [hnx];clear hnx e4 hne HNE;go_enter Tryz.func84,Tryz.ntmps84
  go_wp2_with fail
  refine (A0.out _ HB.out).mono ?_;rintro e w1 ⟨d1,rfl,rfl⟩;go_wp2_with fail
  refine (A4.out _ (by exact HB.out.heapw rfl)).mono ?_;rintro e w1 ⟨d2,rfl,rfl⟩;go_wp2_with fail
  go_ret2
  exact ⟨rfl,jG (az _ _) _⟩
theorem zD:(Tryz.prog.info? 31).map (λi=>(i.zero,i.size,i.bytes))=some (some (.slice none 0 0),1,24):=by kernel_rfl
def gG (B:List UInt8):Nat->Nat->List (List UInt8)->List (List UInt8)×Nat×Nat
 | 0,k,ls=>(ls,k,0)
 | t+1,k,ls =>
  if B.length<=k then (ls,k,0)
  else if (d6 (B.drop k)).2=0 then gG B t (k+(d6 (B.drop k)).1) (ls++[((B.drop k).take (d6 (B.drop k)).1).drop 12])
  else (ls,k,(d6 (B.drop k)).2)
theorem ky (l:List UInt8) (h:(d6 l).2=0):12<=(d6 l).1/\(d6 l).1<=l.length/\(d6 l).1<=20012:=by
 unfold d6 at h ⊢;by_cases h1:l.length<12
 ·rw [aA h1] at h;cases h
 ·rw [aw h1] at h ⊢;by_cases h2:jk l 4 ≠ ~~~ (jk l 0)\/20000<(jk l 0).toNat
  ·rw [aA h2] at h;cases h
  ·rw [aw h2] at h ⊢;by_cases h3:l.length<12+(jk l 0).toNat
   ·rw [aA h3] at h;cases h
   ·rw [aw h3] at h ⊢;by_cases h4:Crc.si (l.take 8++(l.drop 12).take (jk l 0).toNat)≠jk l 8
    ·rw [aA h4] at h;cases h
    ·rw [aw h4];simp only;omega
theorem iu (B:List UInt8) (t k:Nat) (ls:List (List UInt8)) (h:B.length<=k):gG B t k ls=(ls,k,0):=by
 cases t with
 | zero=>rfl
 | succ t=>show (if _ then _ else _)=_;rw [aA h]
theorem kg (B:List UInt8) (t s k:Nat) (ls:List (List UInt8)) (ht:B.length<=k+t) (hs:B.length<=k+s):gG B t k ls=gG B s k ls:=by
 induction t generalizing s k ls with
 | zero=>rw [iu B 0 k ls (by omega),iu B s k ls (by omega)]
 | succ t ih =>
  cases s with
  | zero=>rw [iu B 0 k ls (by omega),iu B _ k ls (by omega)]
  | succ s =>
   show (if _ then _ else if _ then _ else _)=(if _ then _ else if _ then _ else _)
   by_cases h1:B.length<=k
   ·rw [aA h1,aA h1]
   ·rw [aw h1,aw h1];by_cases h2:(d6 (B.drop k)).2=0
    ·rw [aA h2,aA h2];have:=(ky _ h2).1;exact ih s _ _ (by omega) (by omega)
    ·rw [aw h2,aw h2]
def cH (B:List UInt8):List (List UInt8)×Nat×Nat:=gG B B.length 0 []
theorem tg (B:List UInt8) (k:Nat) (ls:List (List UInt8)) (h:k<B.length) (h0:(d6 (B.drop k)).2=0) :
  gG B (B.length - k) k ls=gG B (B.length - (k+(d6 (B.drop k)).1)) (k+(d6 (B.drop k)).1) (ls++[((B.drop k).take (d6 (B.drop k)).1).drop 12]):=by
 obtain ⟨t,ht⟩:∃t,B.length - k=t+1:=⟨B.length - k - 1,by omega⟩
 rw [ht];show (if _ then _ else if _ then _ else _)=_;rw [aw (by omega),aA h0];have:=(ky _ h0).1;exact kg B _ _ _ _ (by omega) (by omega)
theorem tf (B:List UInt8) (k:Nat) (ls:List (List UInt8)) (h:k<B.length) (h0:¬(d6 (B.drop k)).2=0):gG B (B.length - k) k ls=(ls,k,(d6 (B.drop k)).2):=by
 obtain ⟨t,ht⟩:∃t,B.length - k=t+1:=⟨B.length - k - 1,by omega⟩
 rw [ht];show (if _ then _ else if _ then _ else _)=_;rw [aw (by omega),aw h0]
def CV (v:Value) (used how:Int) (e:Ending):Prop:=e = .returned (.tuple #[v,.int .i64 used,.int .i64 how])
end Go.Proofs.YtnhefallmioefaaGreat.F
namespace Go.Proofs.YtnhefallmioefaaGreat
open Go.RowKit Go.ChangeMaps Go.WideMaps Go.Maps
def eX:ByteArray:=⟨#[108,111,103]⟩
def B6:ByteArray:=⟨#[98,97,115,101]⟩
def lq (s:ByteArray):Prop:=(1<=s.size/\s.size<=20)/\∀(i:Nat) (h:i<s.size),33<=(s[i].toNat:Int)/\(s[i].toNat:Int)<=126
theorem jA:lq eX:=⟨by decide,λi hi=>by
 match i,hi with
 | 0,_=>exact ⟨show (33:Int)<=((108:UInt8).toNat:Int) by decide,show ((108:UInt8).toNat:Int)<=126 by decide⟩
 | 1,_=>exact ⟨show (33:Int)<=((111:UInt8).toNat:Int) by decide,show ((111:UInt8).toNat:Int)<=126 by decide⟩
 | 2,_=>exact ⟨show (33:Int)<=((103:UInt8).toNat:Int) by decide,show ((103:UInt8).toNat:Int)<=126 by decide⟩⟩
theorem wG:lq B6:=⟨by decide,λi hi=>by
 match i,hi with
 | 0,_=>exact ⟨show (33:Int)<=((98:UInt8).toNat:Int) by decide,show ((98:UInt8).toNat:Int)<=126 by decide⟩
 | 1,_=>exact ⟨show (33:Int)<=((97:UInt8).toNat:Int) by decide,show ((97:UInt8).toNat:Int)<=126 by decide⟩
 | 2,_=>exact ⟨show (33:Int)<=((115:UInt8).toNat:Int) by decide,show ((115:UInt8).toNat:Int)<=126 by decide⟩
 | 3,_=>exact ⟨show (33:Int)<=((101:UInt8).toNat:Int) by decide,show ((101:UInt8).toNat:Int)<=126 by decide⟩⟩
set_option maxHeartbeats 400000 in
theorem zI (s:ByteArray) (w:World) (h:lq s):Calls Tryz.prog 111 #[.string s] w λe w'=>e = .returned (.bool true)/\w=w':=by
 obtain ⟨⟨h1,h2⟩,h3⟩:=h;have H3:=ab h3;have h1i:(1:Int)<=(s.size:Int):=by omega
 have h2i:(s.size:Int)<=20:=by omega
 clear h3;go_enter Tryz.func111,Tryz.ntmps111
 go_wp2_with fail
 go_loop [6] (λi=>∃k:Nat,k<=s.size/\i = .int .i64 (k:Int)) (λi=>s.size - (intOf i).toNat)
 case atStart=>exact ⟨0,by omega,rfl⟩
 case round =>
  obtain ⟨k,hk,rfl⟩:=hrel;by_cases hlt:k<s.size
  ·obtain ⟨g1,g2⟩:=H3.out k hlt;have g3:decide ((s[k].toNat:Int)<33)=false:=aW (by omega);have g4:decide (126<(s[k].toNat:Int))=false:=aW (by omega);clear g1 g2;go_wp2_with fail
   exact ⟨⟨k+1,by omega,by go_num⟩,by simp [intOf];omega⟩
  ·obtain rfl:k=s.size:=by omega
   go_wp2_with fail
   go_ret
   exact ⟨rfl,rfl⟩
theorem jw:Keyed Tryz.prog 9:=string_keyed Tryz.underlying9
theorem iE (s:ByteArray) (hs:s.size<=20):∃kl,keyOf Tryz.prog 9 (.string s)=some kl:=by
 unfold keyOf;have:s.size<=maxLen:=by unfold maxLen;omega
 simp [Tryz.underlying9,mapKey,this]
theorem uh (w:World):(zeroValue 119).run Tryz.prog w = .ok (.pointer none) w:=by kernel_rfl
theorem uH {w:World} {mb c:Nat} (h:w.heap[mb]? = some (.map #[] c)) (s:ByteArray) (hs:s.size<=20) :
  (Instr.lookup 67 (.map (some mb)) (.string s) false).run Tryz.prog w = .ok (.pointer none) w:=by
 obtain ⟨kl,hkey⟩:=iE s hs;rcases jw.find w hkey [] (by simp) with ⟨h1,_⟩ | ⟨j,e,_,h2,_⟩
 ·simp [Instr.lookup,run_underlying Tryz.underlying67,MapKept.run_getObj_map h,jw.check w _ hkey,h1,uh,Result.andThen]
 ·simp at h2
theorem rz {w:World} {mb c b:Nat} {s:ByteArray} {p:Value} (h:w.heap[mb]? = some (.map #[⟨.string s,p,b⟩] c)) (hs:s.size<=20) :
  (Instr.lookup 67 (.map (some mb)) (.string s) false).run Tryz.prog w = .ok p w:=by
 obtain ⟨kl,hkey⟩:=iE s hs;rcases jw.find w hkey [⟨.string s,p,b⟩] (λe he=>by rw [aj.1 he];exact ⟨kl,hkey⟩) with ⟨_,h2⟩ | ⟨j,e,h1,h2,h3⟩
 ·exact absurd rfl (h2 ⟨.string s,p,b⟩ (by simp))
 ·have hj:j=0/\e=⟨.string s,p,b⟩:=by
   match j,h2 with
   | 0,h2=>simp at h2;exact ⟨rfl,h2.symm⟩
  obtain ⟨rfl,rfl⟩:=hj;simp [Instr.lookup,run_underlying Tryz.underlying67,MapKept.run_getObj_map h,jw.check w _ hkey,h1,Result.andThen]
theorem tG {w:World} {mb c b:Nat} {s t:ByteArray} {p:Value} (h:w.heap[mb]? = some (.map #[⟨.string s,p,b⟩] c)) (hs:s.size<=20) (ht:t.size<=20) (hst:s≠t) :
  (Instr.lookup 67 (.map (some mb)) (.string t) false).run Tryz.prog w = .ok (.pointer none) w:=by
 obtain ⟨kl,hkey⟩:=iE t ht;obtain ⟨kl2,hkey2⟩:=iE s hs;rcases jw.find w hkey [⟨.string s,p,b⟩] (λe he=>by rw [aj.1 he];exact ⟨kl2,hkey2⟩) with ⟨h1,_⟩ | ⟨j,e,h1,h2,h3⟩
 ·simp [Instr.lookup,run_underlying Tryz.underlying67,MapKept.run_getObj_map h,jw.check w _ hkey,h1,uh,Result.andThen]
 ·match j,h2 with
  | 0,h2 =>
   simp at h2;rw [<-h2] at h3;simp at h3;exact absurd h3 hst
theorem AV {w:World} {mb c:Nat} (h:w.heap[mb]? = some (.map #[] c)) (s:ByteArray) (p:Value) (hs:s.size<=20) :
  (Instr.mapUpdate 67 (.map (some mb)) (.string s) p).run Tryz.prog w = .ok () (setBlock w mb (.map #[⟨.string s,p,c⟩] (c+1))):=by
 obtain ⟨kl,hkey⟩:=iE s hs;have h1:(Instr.findKey 9 (.string s) (#[]:Array MapEntry).toList).run Tryz.prog w = .ok none w:=by
  rcases jw.find w hkey [] (by simp) with ⟨h1,_⟩ | ⟨j,e,_,h2,_⟩
  ·exact h1
  ·simp at h2
 simp [Instr.mapUpdate,run_underlying Tryz.underlying67,MapKept.run_getObj_map h,jw.check w _ hkey,h1,MapKept.run_setObj_map _ h,Result.andThen,setBlock]
set_option maxRecDepth 20000
structure Dk where
 room:Int
 off:Bool
 lives:Int
 file:Option (List UInt8×Nat)
def Dk.total (s:Dk):Nat:=match s.file with | none=>0 | some (l,_)=>l.length
def IsFile (w:World) (D:List Nat) (mb:Nat):Option (List UInt8×Nat)->Prop
 | none=>∃c,w.heap[mb]? = some (.map #[] c)
 | some (l,safe)=>∃c fb b0 v,w.heap[mb]? = some (.map #[⟨.string eX,.pointer (some ⟨fb,0,none⟩),b0⟩] c)/\b0<c/\fb∈D/\w.heap[fb]? = some (.cells #[v,.int .i64 (safe:Int)] 121 (0,0))/\OwnB w 0 5 v l/\∀k,v.ownBlock=some k->k∈D
structure IsDk (w:World) (D:List Nat) (d:Nat) (s:Dk):Prop where
 ex:∃mb,w.heap[d]? = some (.cells #[.int .i64 s.room,.bool s.off,.int .i64 s.lives,.map (some mb)] 69 (0,0))/\mb∈D/\IsFile w D mb s.file
 mem:d∈D
 lt:∀b∈D,b<w.heap.size
structure Moves (D D':List Nat) (w w':World):Prop where
 only:Only D w w'
 gr:∀b∈D',b∈D\/w.heap.size<=b
 sub:∀b∈D,b∈D'
theorem Moves.refl (D:List Nat) (w:World):Moves D D w w:=⟨Only.refl _ _,λb h=>.inl h,λb h=>h⟩
theorem Moves.trans {D D' D'':List Nat} {w w' w'':World} (h:Moves D D' w w') (k:Moves D' D'' w' w''):Moves D D'' w w'' :=
 ⟨⟨k.only.os.trans h.only.os,k.only.tape.trans h.only.tape,k.only.output.trans h.only.output,aD h.only.size k.only.size,λi hi hs=>by
  refine (k.only.block i (aE hi h.only.size) (λhm=>?_)).trans (h.only.block i hi hs);rcases h.gr i hm with h1 | h1
  ·exact hs h1
  ·omega⟩,λb hb=>by
  rcases k.gr b hb with h1 | h1
  ·exact h.gr b h1
  ·exact .inr (aD h.only.size h1),λb hb=>k.sub b (h.sub b hb)⟩
theorem Moves.of_only {D:List Nat} {w w':World} (h:Only D w w'):Moves D D w w':=⟨h,λb h=>.inl h,λb h=>h⟩
theorem Moves.of_below {D:List Nat} {w w':World} (h:Below w.heap.size w w'):Moves D D w w':=Moves.of_only (Only.ofBelow h D)
theorem bd {w w':World} {B j:Nat} {o:Obj} (hb:Below B w w') (hj:j<B) (h:w.heap[j]? = some o):w'.heap[j]? = some o:=(hb.block j hj).trans h
theorem iH {w w':World} {S:List Nat} {ao:Option Addr} {n c:Nat} {l:List UInt8} (h:IsB w ao n c l) (ho:Only S w w') (hS:∀b off (i:Nat),ao=some ⟨b,off,none⟩/\i<n->b∉S):IsB w' ao n c l:=by
 obtain ⟨h1,h2,h3⟩:=h;refine ⟨h1,h2,?_⟩;rcases h3 with h3 | ⟨b,off,h4,h5⟩
 ·exact .inl h3
 ·refine .inr ⟨b,off,h4,λi hi=>?_⟩;have hc:=h5 i hi;have hlt:b<w.heap.size:=by
   unfold World.cell? at hc;simp only at hc;cases hq:w.heap[b]? with
   | none=>rw [hq] at hc;simp at hc
   | some o=>exact aQ hq
  rw [World.cell?_of_block (ho.block b hlt (hS b off i ⟨h4,hi⟩))];exact hc
theorem tN {w:World} {b off i n c:Nat} {ao:Option Addr} {l:List UInt8} {es:Array MapEntry} {q:Nat} (h:IsB w ao n c l) (hb:ao=some ⟨b,off,none⟩/\i<n) (hm:w.heap[b]? = some (.map es q)):False:=by
 obtain ⟨rfl,hi⟩:=hb;rcases h.at_ with h3 | ⟨b',off',h4,h5⟩
 ·omega
 ·cases h4;have hc:=h5 i hi;unfold World.cell? at hc;simp [hm] at hc
theorem bu {w w':World} {base:Nat} {e:TypeId} {k:Nat} {v:Value} {n:Nat} {xs:List Value} {S:List Nat} (h:w.ownsRow base e k v n xs) (ho:Only S w w') (hs:∀b,v.ownBlock=some b->b∉S):w'.ownsRow base e k v n xs:=by
 refine ⟨h.1,?_⟩;rcases h.2 with h2 | ⟨g,cap,cur,rfl,hg,hh,r⟩
 ·exact .inl h2
 ·exact .inr ⟨g,cap,cur,rfl,hg,ho.keeps hh (hs g rfl),r⟩
theorem IsFile.keep {w w':World} {D S:List Nat} {mb:Nat} {f:Option (List UInt8×Nat)} (h:IsFile w D mb f) (ho:Only S w w') (hm:mb∈D) (hS:∀b∈D,b∉S):IsFile w' D mb f:=by
 cases f with
 | none =>
  obtain ⟨c,h1⟩:=h;exact ⟨c,ho.keeps h1 (hS _ hm)⟩
 | some p =>
  obtain ⟨l,safe⟩:=p;obtain ⟨c,fb,b0,v,h1,h2,h3,h4,h5,h6⟩:=h;exact ⟨c,fb,b0,v,ho.keeps h1 (hS _ hm),h2,h3,ho.keeps h4 (hS _ h3),bu h5 ho (λb hb=>hS _ (h6 b hb)),h6⟩
theorem IsDk.keep {w w':World} {D S:List Nat} {d:Nat} {s:Dk} (h:IsDk w D d s) (ho:Only S w w') (hS:∀b∈D,b∉S):IsDk w' D d s:=by
 obtain ⟨⟨mb,h1,h2,h3⟩,h4,h5⟩:=h;exact ⟨⟨mb,ho.keeps h1 (hS _ h4),h2,h3.keep ho h2 hS⟩,h4,λb hb=>aE (h5 b hb) ho.size⟩
theorem IsDk.below {w w':World} {D:List Nat} {d:Nat} {s:Dk} (h:IsDk w D d s) (hb:Below w.heap.size w w'):IsDk w' D d s:=h.keep (Only.ofBelow hb []) (λb _=>by simp)
section
variable {w:World} {D:List Nat} {d:Nat} {s:Dk}
theorem lJ (h:IsDk w D d s):Calls Tryz.prog 49 #[.pointer (some ⟨d,0,none⟩)] w λe w'=>e = .returned (.bool (!s.off))/\w=w':=by
 obtain ⟨⟨mb,h1,_⟩,_⟩:=h;have hc:w.cell? ⟨d,1,none⟩=some (.bool s.off):=by rw [af h1];rfl
 clear h1;go_enter Tryz.func49,Tryz.ntmps49
 go_wp2_with fail
 go_ret
 exact ⟨rfl,rfl⟩
theorem fE (h:IsDk w D d s):Calls Tryz.prog 35 #[.pointer (some ⟨d,0,none⟩)] w λe w'=>e = .returned (.int .i64 s.lives)/\w=w':=by
 obtain ⟨⟨mb,h1,_⟩,_⟩:=h;have hc:w.cell? ⟨d,2,none⟩=some (.int .i64 s.lives):=by rw [af h1];rfl
 clear h1;go_enter Tryz.func35,Tryz.ntmps35
 go_wp2_with fail
 go_ret
 exact ⟨rfl,rfl⟩
theorem qb (h:IsDk w D d s) (ho:s.off=false) (H:Nat) (t:ByteArray) (hH:w.cell? ⟨H,0,none⟩=some (.string t)) (ht:lq t):Calls Tryz.prog 103 #[.pointer (some ⟨d,0,none⟩),.slice (some ⟨H,0,none⟩) 1 1] w λe w'=>e = .returned (.int .i64 0)/\w=w':=by
 obtain ⟨⟨mb,h1,_⟩,_⟩:=h;have hc:w.cell? ⟨d,1,none⟩=some (.bool false):=by rw [af h1,ho];rfl
 have HG:=ab (zI t w ht);clear h1;go_enter Tryz.func103,Tryz.ntmps103
 go_wp2_with fail
 go_loopw [6,13] (λ_ i wr=>wr=w/\∃k:Nat,k<=1/\i = .int .i64 (k:Int)) (λ_ i _=>1 - (intOf i).toNat)
 case atStart=>exact ⟨rfl,0,by omega,rfl⟩
 case round =>
  obtain ⟨rfl,k,hk,rfl⟩:=hrel;by_cases h0:k=0
  ·subst h0;go_wp2_with fail
   refine HG.out.mono ?_;rintro e w1 ⟨rfl,rfl⟩;go_wp2_with fail
   go_roundw
   case rel=>exact ⟨trivial,1,by omega,rfl⟩
   case measure=>simp [intOf]
  ·obtain rfl:k=1:=by omega
   go_wp2_with fail
   go_ret
   exact ⟨rfl,rfl⟩
theorem wU {mb:Nat} (h:IsDk w D d s) (ho:s.off=false) (t:ByteArray) (ht:lq t) (h1:w.cell? ⟨d,3,none⟩=some (.map (some mb))) (hl:∀w',Below w.heap.size w w'->(Instr.lookup 67 (.map (some mb)) (.string t) false).run Tryz.prog w' = .ok (.pointer none) w') :
  Calls Tryz.prog 85 #[.pointer (some ⟨d,0,none⟩),.string t] w λe w'=>e = .returned (.tuple #[.pointer none,.int .i64 4])/\Below w.heap.size w w':=by
 have hb:Below w.heap.size w (w.alloc (.cells #[.string t] 9)):=(az _ _).alloc (ah _) _;have HM:=ab (qb (h.below hb) ho w.heap.size t (by rw [af (aK _ _)];rfl) ht);have HB:=ab hb;have hl1:=hl _ hb;have h3:=cell_later hb h1;clear h hb hl h1;go_enter Tryz.func85,Tryz.ntmps85
 go_wp2_with fail
 refine HM.out.mono ?_;rintro e w1 ⟨rfl,rfl⟩;go_wp2_with fail
 go_ret2
 exact ⟨rfl,HB.out⟩
theorem wT {mb fb:Nat} (h:IsDk w D d s) (ho:s.off=false) (t:ByteArray) (ht:lq t) (h1:w.cell? ⟨d,3,none⟩=some (.map (some mb))) (hl:∀w',Below w.heap.size w w'->(Instr.lookup 67 (.map (some mb)) (.string t) false).run Tryz.prog w' = .ok (.pointer (some ⟨fb,0,none⟩)) w') :
  Calls Tryz.prog 85 #[.pointer (some ⟨d,0,none⟩),.string t] w λe w'=>e = .returned (.tuple #[.pointer (some ⟨fb,0,none⟩),.int .i64 0])/\Below w.heap.size w w':=by
 have hb:Below w.heap.size w (w.alloc (.cells #[.string t] 9)):=(az _ _).alloc (ah _) _;have HM:=ab (qb (h.below hb) ho w.heap.size t (by rw [af (aK _ _)];rfl) ht);have HB:=ab hb;have hl1:=hl _ hb;have h3:=cell_later hb h1;clear h hb hl h1;go_enter Tryz.func85,Tryz.ntmps85
 go_wp2_with fail
 refine HM.out.mono ?_;rintro e w1 ⟨rfl,rfl⟩;go_wp2_with fail
 go_ret2
 exact ⟨rfl,HB.out⟩
end
end Go.Proofs.YtnhefallmioefaaGreat
