/-
  What the proof of the law leans on: contracts of the program's functions, one behind another. No condition.
-/
import Derived.Test.YtnicaicjgaoolaaU0
import Derived.Test.YtnicaicjgaoolaaRows
import Derived.BigQuiet
import Derived.Deep.QuietTactic
import Derived.BigRegion
import Derived.Deep.OwnRows
import Derived.Lib.AppendStr
import Derived.Test.YtnicaicjgaoolaaU3
import Derived.Test.YtnicaicjgaoolaaU1
set_option linter.unusedVariables false
set_option linter.unusedSimpArgs false
namespace Go.Proofs.Ytnicaicjgaoolaa
open Go.RowKit Go.ChangeMaps Go.WideMaps Go.Maps
set_option maxRecDepth 20000
theorem sT {p:Prop} (h:p:=by
 go_simp
 refine hK.out _ _ am (λam=>?_);clear hK K;refine bu ?_;refine cf 17 λK hK=>?_;go_simp
 refine hK.out _ _ am (λam=>?_);clear hK K;refine bu ?_;refine cf 18 λK hK=>?_;go_simp
 refine hK.out _ _ am (λam=>?_);clear hK K;refine bu ?_;refine cf 19 λK hK=>?_;go_simp
 refine hK.out _ _ am (λam=>?_);clear hK K;refine bu ?_;refine cf 20 λK hK=>?_;go_simp
 refine hK.out _ _ trivial (λam=>?_);clear hK K;refine bu ?_;refine fc ?_;go_wp2_with fail
 go_meet
 refine ⟨_,rfl,?_⟩;rw [<-HKK.out];exact IntWalk.i64_in _ (by omega)):p:=h
theorem pA {p:Prop} (h:p:=by
 refine hK.out _ _ am (λam=>?_);clear hK K;refine bu ?_;refine cf 15 λK hK=>?_;go_simp
 refine hK.out _ _ am (λam=>?_);clear hK K;refine bu ?_;refine cf 16 λK hK=>?_;exact sT):p:=h
theorem yc {p:Prop} (h:p:=by
 refine hK.out _ _ am (λam=>?_);clear hK K;refine bu ?_;refine gJ 3 15 (λK hK=>?_) λK hK=>?_
 ·go_simp
  exact pA
 ·go_simp
  refine hK.out _ _ am (λam=>?_);clear hK K;refine bu ?_;refine gJ 3 16 (λK hK=>?_) λK hK=>?_
  ·go_simp
   refine hK.out _ _ am (λam=>?_);clear hK K;refine bu ?_;refine cf 16 λK hK=>?_;exact sT
  ·go_simp
   refine hK.out _ _ am (λam=>?_);clear hK K;refine bu ?_;refine cf 3 λK hK=>?_;exact sT):p:=h
theorem pz {p:Prop} (h:p:=by
 refine hK.out _ _ am (λam=>?_);clear hK K;refine bu ?_;refine cf 10 λK hK=>?_;go_simp
 exact pA):p:=h
theorem yb {p:Prop} (h:p:=by
 refine hK.out _ _ am (λam=>?_);clear hK K;refine bu ?_;refine gJ 10 14 (λK hK=>?_) λK hK=>?_
 ·go_simp
  refine hK.out _ _ am (λam=>?_);clear hK K;refine bu ?_;refine cf 14 λK hK=>?_;go_simp
  exact pA
 ·go_simp
  exact pz):p:=h
theorem ya {p:Prop} (h:p:=by
 refine hK.out _ _ am (λam=>?_);clear hK K;refine bu ?_;refine gJ 3 10 (λK hK=>?_) λK hK=>?_
 ·go_simp
  exact pz
 ·go_simp
  exact yc):p:=h
def jr (l:List UInt8) (k:Nat) (keep:Int):Nat:=k+(min (max keep 0) (l.length - k:Int)).toNat
def nT (f:Option (List UInt8×Nat)) (keep:Int):Option (List UInt8×Nat):=match f with | none=>none | some (l,k)=>some (l.take (jr l k keep),jr l k keep)
def dN (s:Dk) (keep:Int):Dk:={ s with off:=true,file:=nT s.file keep }
theorem qF {l:List UInt8} {k:Nat} (keep:Int) (h:k<=l.length):jr l k keep<=l.length:=by unfold jr;omega
section
variable {w:World} {D:List Nat} {d:Nat} {s:Dk}
theorem pc {ao:Option Addr} {n c k:Nat} {l:List UInt8} (h:IsB w ao n c l) (hk:k<=n):IsB w ao k c (l.take k):=by
 obtain ⟨h1,h2,h3⟩:=h;refine ⟨by rw [aE,h1];omega,λe=>⟨by have:=(h2 e).1;omega,(h2 e).2⟩,?_⟩;rcases h3 with h3 | ⟨b,off,h4,h5⟩
 ·exact .inl (by omega)
 ·refine .inr ⟨b,off,h4,λi hi=>?_⟩;rw [h5 i (by omega)];simp [List.getD,hi]
theorem uA {ao:Option Addr} {n c:Nat} {l:List UInt8} (h:OwnB w 0 5 (.slice ao n c) l):n<=c:=by
 rcases h.2 with ⟨h0,h1⟩ | ⟨g,cap,cur,hv,_,_,hn,_⟩
 ·cases h0;exact ah _
 ·cases hv;have h1:=h.1;simp at h1;omega
set_option maxHeartbeats 2000000 in
theorem wQ (h:IsDk w D d s) (keep:Int) (hk0 : -9223372036854775808<=keep) (hk1:keep<=9223372036854775807) (hl:∀l k,s.file=some (l,k)->k<=l.length/\l.length<=1048576) :
  Calls Try.prog 23 #[.pointer (some ⟨d,0,none⟩),.int .i64 keep] w λe w'=>∃D',e = .returned (.tuple #[])/\IsDk w' D' d (dN s keep)/\Moves D D' w w':=by
 have H0:=ab h;obtain ⟨⟨mb,k1,k2,k3⟩,k4,k5⟩:=h;have hc1:w.cell? ⟨d,1,none⟩=some (.bool s.off):=by rw [af k1];rfl
 have hz1:=aO k1 1;have o1:Only [d] w (w.setCell ⟨d,1,none⟩ (.bool true)):=(Only.refl _ _).setCell (by simp) _;have hd1:=aZ k1 1 (.bool true);have hc3:(w.setCell ⟨d,1,none⟩ (.bool true)).cell? ⟨d,3,none⟩=some (.map (some mb)):=by rw [af hd1];rfl
 have CO:=k3.only_d o1 k1;have HO1:=ab (o1.mono (T:=D) (by simpa using k4));have HD1:=ab hd1;have HK5:Hid (∀b∈D,b<(w.setCell ⟨d,1,none⟩ (.bool true)).heap.size):=ab (λb hb=>aH (k5 b hb) o1.size);cases hfile:s.file with
 | none =>
  rw [hfile] at CO;obtain ⟨c,hm⟩:=CO;have HM:=ab hm;have hr:=run_range_map (P:=Try.prog) (w.setCell ⟨d,1,none⟩ (.bool true)) 77 9 84 mb #[] c Try.underlying77 hm;have hn:∀ty,(Instr.next (.pointer (some ⟨(w.setCell ⟨d,1,none⟩ (.bool true)).heap.size,0,none⟩)) false ty).run Try.prog ((w.setCell ⟨d,1,none⟩ (.bool true)).alloc (.mapIter (some mb) c #[] c)) = .ok (.tuple #[.bool false]) ((w.setCell ⟨d,1,none⟩ (.bool true)).alloc (.mapIter (some mb) c #[] c)):=λty=>uD (aJ _ _) (bp hm _);have hszq:(w.setCell ⟨d,1,none⟩ (.bool true)).heap.size=w.heap.size:=by simp
  rw [hszq] at hn hr;clear hszq;have hap:dN s keep=⟨s.room,true,s.lives,none⟩:=by unfold dN nT;rw [hfile]
  have HAP:=ab hap;have HFIN:Hid (IsDk ((w.setCell ⟨d,1,none⟩ (.bool true)).alloc (.mapIter (some mb) c #[] c)) D d ⟨s.room,true,s.lives,none⟩):=ab ((⟨⟨mb,hd1,k2,⟨c,hm⟩⟩,k4,HK5.out⟩:IsDk (w.setCell ⟨d,1,none⟩ (.bool true)) D d ⟨s.room,true,s.lives,none⟩).below ((aB _ _).alloc (ah _) _));have HMV:Hid (Only D w ((w.setCell ⟨d,1,none⟩ (.bool true)).alloc (.mapIter (some mb) c #[] c))):=ab (HO1.out.alloc _);clear k1 k2 k3 k4 k5 o1 hd1 hm hap hfile;go_enter Try.func23,Try.ntmps23
  go_wp2_with fail
  generalize ((w.setCell ⟨d,1,none⟩ (.bool true)).alloc (.mapIter (some mb) c #[] c))=w1 at *;go_loopw [5] (λ_ wr=>wr=w1) (λ_ _=>0)
  case atStart=>rfl
  case round =>
   obtain rfl:=hrel;go_wp2_with fail
   go_end0
   exact ⟨D,rfl,by rw [HAP.out];exact HFIN.out,Moves.of_only HMV.out⟩
 | some p =>
  obtain ⟨l,kk0⟩:=p;obtain ⟨hkl,hll⟩:=hl l kk0 hfile;rw [hfile] at CO;obtain ⟨cc,fb,b0,v,hm,hb0,hfD,hf,ho,hov⟩:=CO;obtain ⟨w1,w2,hI⟩:=B2 hm hb0;obtain ⟨ao,c,rfl,hi⟩:=ho.isB;have hr:=hI.range;have hn:=hI.next;have he:=hI.entry;have HDN:=ab hI.done;have HLI:=ab (And.intro hI.l1 hI.l2);have HP2:Hid (Parts w2 D d { s with off:=true } l kk0 mb cc fb b0 (.slice ao l.length c)):=ab ((⟨hd1,hm,hb0,hf,ho,k4,k2,hfD,hov,HK5.out⟩:Parts (w.setCell ⟨d,1,none⟩ (.bool true)) D d { s with off:=true } l kk0 mb cc fb b0 (.slice ao l.length c)).below hI.b2);have HR2:=ab hI.b2;have HSZ2:=ab hI.sz;have hkk:(jr l kk0 keep:Int)=(kk0:Int)+min (max keep 0) ((l.length:Int) - (kk0:Int)):=by unfold jr;omega
  have hap:dN s keep=⟨s.room,true,s.lives,some (l.take (jr l kk0 keep),jr l kk0 keep)⟩:=by unfold dN nT;rw [hfile]
  have HAP:=ab hap;have hkl2:=qF keep hkl;generalize hkq:jr l kk0 keep=kk at *;have HKK:=ab hkk;clear k1 k2 k3 k4 k5 o1 hd1 hm hap hfile hf ho hov hI hkq hl hkk;simp only at hn he;have hszq:(w.setCell ⟨d,1,none⟩ (.bool true)).heap.size=w.heap.size:=by simp
  rw [hszq] at hn hr he HDN HLI HSZ2;clear hszq;generalize hX:w.heap.size=X at *;have HX:=ab hX;clear hX;go_enter Try.func23,Try.ntmps23
  go_wp2_with fail
  go_loopw [5] (λ_ wr=>wr=w1\/∃D' v',wr.heap[X]? = w2.heap[X]? /\ wr.heap[mb]? = w2.heap[mb]? /\ Parts wr D' d { s with off:=true } (l.take kk) kk mb cc fb b0 v'/\Moves D D' w2 wr) (λ_ wr=>lu wr X)
  case atStart=>exact .inl rfl
  case round =>
   rcases hrel with rfl | ⟨D',v',r1,r2,r3,r4⟩
   ·have hf0:=HP2.out.hf;have hc20:w2.cell? ⟨fb,0,none⟩=some (.slice ao l.length c):=by rw [af hf0];rfl
    have hc21:w2.cell? ⟨fb,1,none⟩=some (.int .i64 (kk0:Int)):=by rw [af hf0];rfl
    have hz21:=aO hf0 1;have q1:IntKind.i64.wrap ((l.length:Int) - (kk0:Int))=(l.length:Int) - (kk0:Int):=IntWalk.i64_in _ (by omega);clear hf0;go_upto_region 4 with (fail)
    go_cut [] (λwx=>∃y:Int,wx=w2.drew.setCell ⟨fb,1,none⟩ (.int .i64 y)/\y=(kk:Int))
    case first =>
     refine wp_region_held_drew (S:=λw'=>True) (by kernel_rfl) trivial (λam=>?_);refine az 0 ?_;refine az 1 ?_;refine az 2 ?_;refine az 4 ?_;refine az 5 ?_;refine az 6 ?_;refine az 7 ?_;refine az 8 ?_;refine az 11 ?_;refine az 12 ?_;refine az 13 ?_;refine vH 3 9 14 (λK hK=>?_) (λK hK=>?_) λK hK=>?_
     ·go_simp
      refine hK.out _ _ am (λam=>?_);clear hK K;refine bu ?_;refine gJ 9 14 (λK hK=>?_) λK hK=>?_
      ·go_simp
       exact yb
      ·go_simp
       refine hK.out _ _ am (λam=>?_);clear hK K;refine bu ?_;refine cf 9 λK hK=>?_;go_simp
       exact pz
     ·go_simp
      refine hK.out _ _ am (λam=>?_);clear hK K;refine bu ?_;refine vH 3 10 14 (λK hK=>?_) (λK hK=>?_) λK hK=>?_
      ·go_simp
       exact yb
      ·go_simp
       refine hK.out _ _ am (λam=>?_);clear hK K;refine bu ?_;refine gJ 3 14 (λK hK=>?_) λK hK=>?_
       ·go_simp
        refine hK.out _ _ am (λam=>?_);clear hK K;refine bu ?_;refine cf 14 λK hK=>?_;go_simp
        exact pA
       ·go_simp
        exact yc
      ·go_simp
       exact ya
     ·go_simp
      refine hK.out _ _ am (λam=>?_);clear hK K;refine bu ?_;refine gJ 3 9 (λK hK=>?_) λK hK=>?_
      ·go_simp
       refine hK.out _ _ am (λam=>?_);clear hK K;refine bu ?_;refine cf 9 λK hK=>?_;go_simp
       exact pz
      ·go_simp
       exact ya
    case rest =>
     obtain ⟨y,rfl,rfl⟩:=hcut;have o4:Only [fb] w2 (w2.drew.setCell ⟨fb,1,none⟩ (.int .i64 (kk:Int))):=(Only.refl [fb] w2).drew.setCell (by simp) _;have hf4:(w2.drew.setCell ⟨fb,1,none⟩ (.int .i64 (kk:Int))).heap[fb]? = some (.cells #[.slice ao l.length c,.int .i64 (kk:Int)] 86 (0,0)):=aZ (w:=w2.drew) HP2.out.hf 1 _;have hpW:=HP2.out.set (s':={ s with off:=true }) o4 hf4 HP2.out.ho (λb hb=>hb) HP2.out.vD HP2.out.lt ⟨rfl,rfl,rfl⟩;have HFX:Hid (fb<X):=ab (by have:=HK5.out fb HP2.out.fD;have:=HX.out;simp at *;omega);have hiW:IsB (w2.drew.setCell ⟨fb,1,none⟩ (.int .i64 (kk:Int))) ao l.length c l:=by
       obtain ⟨a9,c9,e9,hi9⟩:=hpW.ho.isB;cases e9;exact hi9
     clear hc20 hc21 hz21;go_upto_region 5 with (fail)
     generalize (w2.drew.setCell ⟨fb,1,none⟩ (.int .i64 (kk:Int)))=W at *;have hcW:W.drew.cell? ⟨fb,1,none⟩=some (.int .i64 (kk:Int)):=by rw [af (show W.drew.heap[fb]? = _ from hf4)];rfl
     have HFV:Hid (W.drew.heap[fb]? = some (.cells #[.slice ao l.length c,.int .i64 (kk:Int)] 86 (0,0))):=ab hf4;have HIV:Hid (IsB W.drew ao kk c (l.take kk)):=ab ((pc hiW hkl2).below (cB W));have HPV:Hid (Parts W.drew D d { s with off:=true } l kk mb cc fb b0 (.slice ao l.length c)):=ab (hpW.below (cB W));have HOV:Hid (Only [fb] w2 W.drew):=ab o4.drew;have hkc:kk<=c:=aF hkl2 (uA hpW.ho);clear o4 hf4 hpW hiW;refine wp_region_held_drew (S:=λw'=>w'.cell? ⟨fb,1,none⟩=some (.int .i64 (kk:Int))) (by kernel_rfl) hcW (λam=>?_);refine az 0 ?_;refine az 1 ?_;refine az 2 ?_;refine az 3 ?_;refine az 5 ?_;refine az 6 ?_;refine az 7 ?_;refine az 8 ?_;generalize W.drew=V at *;refine cf 4 λK hK=>?_;have hy0:V.cell? ⟨fb,0,none⟩=some (.slice ao l.length c):=by rw [af HFV.out];rfl
     go_simp
     clear hy0;refine hK.out _ _ am (λam=>?_);clear hK K;refine bu ?_;refine cf 9 λK hK=>?_;go_simp
     refine hK.out _ _ am (λam=>?_);clear hK K;refine bu ?_;refine cf 10 λK hK=>?_;go_simp
     refine (F.dJ ao kk c (l.take kk) _ HIV.out (by omega)).mono ?_;rintro e w5 ⟨v5,rfl,ho5,hb5⟩;have HB5:=ab hb5;have HO5:=ab ho5;have hh5:=cell_later hb5 am;clear ho5 hb5;go_wp2_with fail
     refine hK.out _ _ hh5 (λam=>?_);clear hK K;refine bu ?_;clear hh5;refine cf 11 λK hK=>?_;go_simp
     refine hK.out _ _ am (λam=>?_);clear hK K;refine bu ?_;refine cf 12 λK hK=>?_;go_simp
     refine hK.out _ _ am (λam=>?_);clear hK K;refine bu ?_;refine cf 13 λK hK=>?_;have hf5:=bQ HB5.out (aU HFV.out) HFV.out;have hy0:w5.cell? ⟨fb,0,none⟩=some (.slice ao l.length c):=by rw [af hf5];rfl
     have hz0:=aO hf5 0;have HF5:=ab hf5;obtain ⟨a5,c5,rfl,_⟩:=HO5.out.isB;have hlk:(l.take kk).length=kk:=by rw [aE];omega
     rw [hlk] at HO5;clear hf5 hlk;go_simp
     clear hy0 hz0;refine hK.out _ _ ((af (aZ HF5.out 0 _) 1).trans rfl) (λam=>?_);clear hK K;refine bu ?_;refine fc ?_;go_wp2_with fail
     go_roundw
     case rel =>
       have o9:Only [fb] w5 (w5.setCell ⟨fb,0,none⟩ (.slice a5 kk c5)):=(Only.refl _ _).setCell (by simp) _;have hp5:=HPV.out.below HB5.out;have hv5:=HO5.out.mono (aA _);have hlt5:=mN hv5;have hp9:=hp5.set (D':=D++(Value.slice a5 kk c5).ownBlock.toList) (s':={ s with off:=true }) o9 (aZ HF5.out 0 _) hv5 (λb hb=>by simp [hb]) (λj hj=>by simp [hj]) (λb hb=>by
         simp only [av,dP] at hb;rcases hb with hb | hb
         ·exact hp5.lt b hb
         ·exact hlt5 b hb) ⟨rfl,rfl,rfl⟩
       have oall:Only [fb] w2 (w5.setCell ⟨fb,0,none⟩ (.slice a5 kk c5)):=(HOV.out.trans (Only.ofBelow HB5.out [fb])).trans o9;have n2:mb≠fb:=fV HPV.out.hm HPV.out.hf (by simp);have n1:X≠fb:=by have:=HFX.out;omega
       have hXlt:X<w2.heap.size:=by rw [HSZ2.out];omega
       have hszV:w2.heap.size<=V.heap.size:=HOV.out.size;refine .inr ⟨_,_,oall.block X hXlt (by simpa using n1),oall.block mb (aU HP2.out.hm) (by simpa using n2),hp9,oall.mono (by simpa using HPV.out.fD),λb hb=>?_,λb hb=>by simp [hb]⟩;simp only [av,dP] at hb;rcases hb with hb | hb
       · exact .inl hb
       · exact .inr (aF hszV (HO5.out.lt b hb).1)
     case measure =>
       have o9:Only [fb] w5 (w5.setCell ⟨fb,0,none⟩ (.slice a5 kk c5)):=(Only.refl _ _).setCell (by simp) _;have oall:Only [fb] w2 (w5.setCell ⟨fb,0,none⟩ (.slice a5 kk c5)):=(HOV.out.trans (Only.ofBelow HB5.out [fb])).trans o9;have n1:X≠fb:=by have:=HFX.out;omega
       have hXlt:X<w2.heap.size:=by rw [HSZ2.out];omega
       rw [rx (oall.block X hXlt (by simpa using n1)),HLI.out.1,HLI.out.2];omega
   ·have hd:=HDN.out;have hd2:=λty=>hd ty wr r1 r2;have R3:=ab r3;have R4:=ab r4;clear hd hn he r1 r2 r3 r4;go_wp2_with fail
    go_end0
    exact ⟨D',rfl,by rw [HAP.out];exact (⟨R3.out.hd,R3.out.hm,R3.out.hb,R3.out.hf,R3.out.ho,R3.out.dD,R3.out.mD,R3.out.fD,R3.out.vD,R3.out.lt⟩:Parts wr D' d ⟨s.room,true,s.lives,some (l.take kk,kk)⟩ (l.take kk) kk mb cc fb b0 v').dk rfl,((Moves.of_only HO1.out).trans (Moves.of_only (Only.ofBelow HR2.out D))).trans R4.out⟩
end
theorem iQ:(Try.prog.info? 5).map (λi=>(i.zero,i.size,i.bytes))=some (some (.int .u8 0),1,1):=by kernel_rfl
def fz (z:Int) (i:Nat):UInt8:=UInt8.ofNat ((BitVec.ofInt 64 z).toNat / 2 ^ (8*(7 - i)))
def fI (z:Int):List UInt8:=[fz z 0,fz z 1,fz z 2,fz z 3,fz z 4,fz z 5,fz z 6,fz z 7]
theorem wS (z:Int) (k:Nat):IntKind.u64.wrap z / 2 ^ (8*(7 - k)) % 256=((fz z k).toNat:Int):=by
 have h1:IntKind.u64.wrap z=((BitVec.ofInt 64 z).toNat:Int):=by
  have h0:((BitVec.ofInt 64 z).toNat:Int)=z % 18446744073709551616:=by
   rw [BitVec.toNat_ofInt];have:(0:Int)<=z % ((2 ^ 64:Nat):Int):=Int.emod_nonneg _ (by decide);rw [Int.toNat_of_nonneg this];rfl
  rw [h0];simp [IntKind.wrap,IntKind.bits,IntKind.signed]
 rw [h1];unfold fz;generalize (BitVec.ofInt 64 z).toNat=m;rw [Du];generalize 8*(7 - k)=e;have:((2:Int) ^ e)=((2 ^ e:Nat):Int):=by rw [Int.natCast_pow];rfl
 rw [this];generalize (2:Nat) ^ e=q;rw [Int.natCast_emod,Int.natCast_ediv];rfl
theorem tZ (z:Int) (k:Nat):#[Value.int .u8 (IntKind.u64.wrap z / 2 ^ (8*(7 - k)) % 256)]=([fz z k].map bv).toArray:=by
 rw [wS];rfl
theorem fs (z:Int):(fI z).length=8:=rfl
theorem Ao (z:Int) (k:Nat) (h:k<8):(fI z).take (k+1)=(fI z).take k++[fz z k]:=by
 rcases k with _ | _ | _ | _ | _ | _ | _ | _ | k
 all_goals first | rfl | omega
set_option maxHeartbeats 400000 in
theorem uM (ao:Option Addr) (n c:Nat) (l:List UInt8) (z:Int) (w:World) (h:IsB w ao n c l) (hn:n<=70368744177664) :
  Calls Try.prog 69 #[.slice ao n c,.int .i64 z] w λe w'=>∃v,e = .returned v/\OwnB w' w.heap.size 5 v (l++fI z)/\Below w.heap.size w w':=by
 have hlen:=h.len;have hb1:([]:List UInt8).length+n<=140737488355328:=by simp;omega
 have HB:=ab h;clear h;go_enter Try.func69,Try.ntmps69
 go_wp2_with (at_builtin;refine cV rfl _ _ 29 rfl w.heap.size 5 Try.underlying29 iQ _ [] rfl (OwnB.new _ _ _ [] _ rfl _ rfl (by exact ah _) 0 rfl (by decide)) _ _ _ _ rfl (HB.out.alloc _) hb1 (by simp) ?_;intro v' w2 hown' hgr hb2)
 have hb3:Below w.heap.size w w2:=((aB _ _).alloc (ah _) _).trans hb2;rw [bR] at hown';clear hgr hb2 HB;have HL:=ab hlen;clear hlen;go_loopw [5,6] (λv i wr=>∃k:Nat,k<=8/\i = .int .i64 (7 - (k:Int))/\OwnB wr w.heap.size 5 v (l++(fI z).take k)/\Below w.heap.size w wr) (λ_ i _=>(intOf i+1).toNat)
 case atStart=>exact ⟨0,by omega,rfl,by simpa using hown',hb3⟩
 case round =>
  obtain ⟨k,hk,rfl,hown,hbl⟩:=hrel;by_cases hlt:k<8
  ·have hc1:(l++(fI z).take k).length+1<=140737488355328:=by
    have:=HL.out;rw [ay,aE];omega
   have hc2:=hbl.size;go_wp2_with (at_builtin;refine cV rfl _ _ 29 rfl w.heap.size 5 Try.underlying29 iQ _ _ rfl (hown.alloc _) _ _ _ [fz z k] rfl (pY _ [fz z k] _ (tZ z k) _ _ _ rfl 1 rfl _) hc1 (by simp;omega) ?_;intro v3 w3 hown3 hgr3 hb4;clear hown)
   go_roundw
   case rel=>exact ⟨k+1,by omega,by go_num,by rw [Ao z k hlt,<-bH];exact hown3,(hbl.alloc hc2 _).trans hb4⟩
   case measure=>simp [intOf];omega
  ·go_wp2
   go_ret
   obtain rfl:k=8:=by omega
   exact ⟨_,rfl,by simpa [bA,fI] using hown,hbl⟩
theorem ks {P:Program} {w:World} {ops:Array Oper} {rest:List Oper} {o:Oper} {a:Act} {Q:Exit->Act->World->Prop} (hgd:o.guard=none) (sl x:Operand) (t u:TypeId)
  (ho:o.op = .call { callee:=.builtin .append,args:=#[sl,x],argTypes:=#[t,u]})
  (base:Nat) (e:TypeId) (ht:P.underlying t=some (.slice e)) (hu:P.underlying u=some .string) (hi:(P.info? e).map (λi=>(i.zero,i.size,i.bytes))=some (some (.int .u8 0),1,1))
  (v:Value) (l:List UInt8) (hs:a.eval sl=v) (hown:OwnB w base e v l) (s:ByteArray) (hx:a.eval x = .string s)
  (hbytes:l.length+s.size<=140737488355328) (hbase:base<=w.heap.size)
  (h:∀v' w',OwnB w' base e v' (l++s.data.toList)->w.grownBy w' v.ownBlock->Below base w w'->wpList P ops Q rest (a.put o.dst v') w'):wpList P ops Q (o::rest) a w:=by
 obtain ⟨i0,hi0,hz0,hz1,hz2⟩:=info_parts hi;have hb:∀w',w.grownBy w' v.ownBlock->Below base w w':=λw' hg=>(aB base w).grown hg hbase (λk hk=>(hown.lt k hk).1);refine Lib.wpList_append_own_string w hgd sl x t u ho base e i0 ht hu hi0 hz0 hz1 hz2 v _ _ hs hown s hx (by unfold maxLen;omega) hbytes hbase ?_;intro v' w' g1 g2 _;refine h v' w' ?_ g2 (hb w' g2);unfold OwnB;rw [ay,bW];exact g1
def xh (s:ByteArray):List UInt8:=fI (s.size:Int)++s.data.toList
theorem oK (s:ByteArray):s.data.toList.length=s.size:=rfl
set_option maxHeartbeats 400000 in
theorem qC (ao:Option Addr) (n c:Nat) (l:List UInt8) (s:ByteArray) (w:World) (h:IsB w ao n c l) (hn:n<=1099511627776) (hs:s.size<=1099511627776) :
  Calls Try.prog 66 #[.slice ao n c,.string s] w λe w'=>∃v,e = .returned v/\OwnB w' w.heap.size 5 v (l++xh s)/\Below w.heap.size w w':=by
 have hlen:=h.len;go_enter Try.func66,Try.ntmps66
 go_wp2_with fail
 refine (uM ao n c l _ w h (by omega)).mono ?_;rintro e w1 ⟨v,rfl,hown,hb⟩;have hl:(l++fI (s.size:Int)).length+s.size<=140737488355328:=by rw [ay,fs];omega
 have hz:=hb.size;clear h hlen;go_wp2_with (at_builtin;refine ks rfl _ _ 29 9 rfl w.heap.size 5 Try.underlying29 Try.underlying9 iQ _ _ rfl hown _ rfl hl hz ?_;intro v3 w3 hown3 hgr3 hb4;clear hown)
 go_ret
 exact ⟨_,rfl,by simpa [xh,bH] using hown3,hb.trans hb4⟩
def jp (zs:List Int):List UInt8:=zs.flatMap fI
theorem jS (zs:List Int):(jp zs).length=8*zs.length:=by
 induction zs with
 | nil=>rfl
 | cons z zs ih=>simp only [jp,ue,ay,fs,aX] at ih ⊢;omega
theorem vp (l:List Int) (k:Nat) (h:k<l.length):l.take (k+1)=l.take k++[l.getD k 0]:=by
 rw [kR h];simp [h]
theorem wT (zs:List Int) (k:Nat) (h:k<zs.length):jp (zs.take (k+1))=jp (zs.take k)++fI (zs.getD k 0):=by
 rw [vp zs k h];simp [jp]
set_option maxHeartbeats 400000 in
theorem jH (ao:Option Addr) (n c:Nat) (l:List UInt8) (ai:Option Addr) (m ci:Nat) (zs:List Int) (w:World) (h:IsB w ao n c l) (hi:IsI w ai m ci zs) (hn:n<=1099511627776) (hm:m<=1099511627776) :
  Calls Try.prog 51 #[.slice ao n c,.slice ai m ci] w λe w'=>∃v,e = .returned v/\OwnB w' w.heap.size 5 v (l++jp zs)/\Below w.heap.size w w':=by
 have hlen:=h.len;have hb1:([]:List UInt8).length+n<=140737488355328:=by simp;omega
 have HB:=ab h;clear h;have HI:=ab hi;clear hi;go_enter Try.func51,Try.ntmps51
 go_wp2_with (at_builtin;refine cV rfl _ _ 29 rfl w.heap.size 5 Try.underlying29 iQ _ [] rfl (OwnB.new _ _ _ [] _ rfl _ rfl (by exact ah _) 0 rfl (by decide)) _ _ _ _ rfl (HB.out.alloc _) hb1 (by simp) ?_;intro v' w2 hown' hgr hb2)
 have hb3:Below w.heap.size w w2:=((aB _ _).alloc (ah _) _).trans hb2;rw [bR] at hown';clear hgr hb2 HB;have HL:=ab hlen;clear hlen;go_loopw [5,13] (λv i wr=>∃k:Nat,k<=m/\i = .int .i64 (k:Int)/\OwnB wr w.heap.size 5 v (l++jp (zs.take k))/\Below w.heap.size w wr) (λ_ i _=>m - (intOf i).toNat)
 case atStart=>exact ⟨0,by omega,rfl,by simpa [jp] using hown',hb3⟩
 case round =>
  obtain ⟨k,hk,rfl,hown,hbl⟩:=hrel;have hzl:=HI.out.len;by_cases hlt:k<m
  ·obtain ⟨ag,rfl⟩:∃ag:Nat×Nat,ai=some ⟨ag.1,ag.2,none⟩:=by
    rcases HI.out.at_ with h0 | ⟨b,off,h1,h2⟩
    ·omega
    ·exact ⟨(b,off),h1⟩
   have hcell:wr.cell? ⟨ag.1,ag.2+k,none⟩=some (.int .i64 (zs.getD k 0)):=by
    rcases HI.out.at_ with h0 | ⟨b,off,h1,h2⟩
    ·omega
    ·have:=cell_later hbl (h2 k hlt);cases h1;exact this
   have htk:=wT zs k (by omega);generalize zs.getD k 0=z at hcell htk;have HT:=ab htk;clear htk;have hc2:=hbl.size;obtain ⟨a1,c1,rfl,hb1⟩:=hown.isB;have hll:(l++jp (zs.take k)).length<=70368744177664:=by
    have:=HL.out;rw [ay,jS,aE];omega
   generalize (l++jp (zs.take k)).length=nn at hown hb1 hll;have HW:=ab hown;clear hown;have HB1:=ab hb1;clear hb1 hzl;go_wp2_with fail
   refine (uM _ _ _ _ _ _ HB1.out hll).mono ?_;rintro e w3 ⟨v3,rfl,hown3,hb3⟩;go_wp2_with fail
   go_roundw
   case rel=>exact ⟨k+1,by omega,by go_num,by rw [HT.out,<-bH];exact hown3.mono hc2,hbl.trans (hb3.mono hc2)⟩
   case measure=>simp [intOf];omega
  ·go_wp2
   go_ret
   obtain rfl:k=m:=by omega
   rw [bA (by omega)] at hown;exact ⟨_,rfl,hown,hbl⟩
structure IsR (w:World) (a:Nat) (T:Nat->Prop) (l:List UInt8) (bad:Bool):Prop where
 row:∃ao n c,w.heap[a]? = some (.cells #[.slice ao n c,.bool bad] 119 (0,0))/\IsB w ao n c l/\n<=c/\(∀p,ao=some p->T p.block)
 ne:¬T a
variable {T:Nat->Prop}
theorem zQ {w w':World} {ao:Option Addr} {n c a:Nat} {l:List UInt8} (h:IsB w ao n c l) (ho:Only [a] w w') (hne:∀p,ao=some p->p.block≠a):IsB w' ao n c l:=by
 obtain ⟨h1,h2,h3⟩:=h;refine ⟨h1,h2,?_⟩;rcases h3 with h3 | ⟨b,off,h4,h5⟩
 ·exact .inl h3
 ·exact .inr ⟨b,off,h4,λi hi=>ho.cell (h5 i hi) (by simpa using hne _ h4)⟩
theorem zR {w:World} {b off:Nat} (c:Nat):IsB w (some ⟨b,off,none⟩) 0 c []:=⟨rfl,(λe=>by cases e),.inl rfl⟩
theorem lw {w:World} {a:Nat} {x:Value} {bad:Bool} (h1:w.heap[a]? = some (.cells #[x,.bool bad] 119 (0,0))) {ao:Option Addr} {n c:Nat} {l:List UInt8} (h2:IsB w ao n c l) (h3:n<=c) (h4:∀p,ao=some p->T p.block) (hne:¬T a) :
  IsR (w.setCell ⟨a,0,none⟩ (.slice ao n c)) a T l bad:=by
 have ho:Only [a] w (w.setCell ⟨a,0,none⟩ (.slice ao n c)):=(Only.refl [a] w).setCell (by simp) _;exact ⟨⟨ao,n,c,aZ h1 0 _,zQ h2 ho (λp hp e=>hne (e ▸ h4 p hp)),h3,h4⟩,hne⟩
set_option maxHeartbeats 400000 in
theorem jY (a:Nat) (l:List UInt8) (bad:Bool) (w:World) (h:IsR w a T l bad) :
  Calls Try.prog 82 #[.pointer (some ⟨a,0,none⟩)] w λe w'=>e = .returned (.tuple #[])/\IsR w' a T [] true/\Only [a] w w':=by
 obtain ⟨⟨ao,n,c,h1,h2,h3,h4⟩,hne⟩:=h;have hc0:w.cell? ⟨a,0,none⟩=some (.slice ao n c):=by rw [af h1];rfl
 have hc1:w.cell? ⟨a,1,none⟩=some (.bool bad):=by rw [af h1];rfl
 have hf0:=aO h1 0;have hf1:=aO h1 1;have HR:=ab h1;clear h1 h2 h4;go_enter Try.func82,Try.ntmps82
 go_wp2_with fail
 go_end0
 refine ⟨rfl,⟨⟨none,0,0,?_,fS _,ah _,by simp⟩,hne⟩,?_⟩
 ·exact aZ (aZ HR.out 0 _) 1 _
 ·exact ((Only.refl [a] w).setCell (by simp) _).setCell (by simp) _
def ej (l:List UInt8):ByteArray:=⟨l.toArray⟩
theorem gE (w:World) (ao:Option Addr) (n c:Nat) (l:List UInt8) (h:IsB w ao n c l):(convert 29 9 (.slice ao n c)).run Try.prog w = .ok (.string (ej l)) w:=by
 obtain ⟨h1,h2,h3⟩:=h;cases ao with
 | none =>
  obtain ⟨rfl,rfl⟩:=h2 rfl;obtain rfl:=bC.1 h1;rw [run_convert_bytes_nil w 29 5 Try.underlying29 Try.underlying5 0 0 9 Try.underlying9];rfl
 | some p =>
  rcases h3 with h3 | ⟨b,off,h4,h5⟩
  ·subst h3;obtain rfl:=bC.1 h1;rw [run_convert_bytes_string w 29 9 5 _ 0 c Try.underlying29 Try.underlying5 Try.underlying9,run_bytesToString w p 0 c [] (run_loadCells_list w p [] (by simp))];rfl
  ·cases h4;rw [run_convert_bytes_arg w 29 5 Try.underlying29 Try.underlying5 b off n c (l.map λx=>(x.toNat:Int)) (by simpa using h1) (λi hi=>by rw [h5 i hi];simp [h1,hi]) 9 Try.underlying9];simp only [strOfNums,ej,pw];congr 4;rw [Dl (g:=id)]
   ·simp
   ·intro x _;simp
def oO (v:Nat) (x:UInt8):Nat:=v*256+x.toNat
def oy (l:List UInt8):Nat:=l.foldl oO 0
theorem AF (l:List UInt8) (x:UInt8):oy (l++[x])=oy l*256+x.toNat:=by simp [oy,oO]
theorem BV (l:List UInt8):oy l<256 ^ l.length:=by
 have key:∀(l:List UInt8) (v n:Nat),v<256 ^ n->l.foldl oO v<256 ^ (n+l.length):=by
  intro l;induction l with
  | nil=>intro v n h;exact h
  | cons x l ih =>
   intro v n h;have hx:=x.toNat_lt;have:=ih (oO v x) (n+1) (by unfold oO;rw [Nat.pow_succ];omega);rw [aX,show n+(l.length+1)=n+1+l.length by omega];exact this
 have:=key l 0 0 (by simp)
 rwa [dg] at this
theorem AG (l:List UInt8) (h:l.length<8):oy l<72057594037927936:=aH (BV l) (aF (Nat.pow_le_pow_right (by decide) (show l.length<=7 by omega)) (by decide))
def ol (l:List UInt8):Int:=wrap64 (oy (l.take 8):Int)
theorem jw (v:Nat) (h:v<18446744073709551616):IntKind.u64.wrap (v:Int)=(v:Int):=by
 have:IntKind.u64.wrap (v:Int)=(v:Int) % 18446744073709551616:=by simp [IntKind.wrap,IntKind.bits,IntKind.signed]
 rw [this];omega
theorem vw (v:Nat) (x:UInt8) (h:v<72057594037927936):bits .or .u64 (IntKind.u64.wrap ((v:Int)*256)) (IntKind.u64.wrap (x.toNat:Int))=((v*256+x.toNat:Nat):Int):=by
 have hx:=x.toNat_lt;have e:(v:Int)*256=((v*256:Nat):Int):=by rw [Int.natCast_mul];rfl
 rw [e,jw _ (by omega),jw _ (by omega),u64_or_nat _ _ (by omega) (by omega)];have e2:=Nat.shiftLeft_add_eq_or_of_lt (i:=8) (b:=x.toNat) (by omega) v;rw [Nat.shiftLeft_eq,show 2 ^ 8=256 from rfl] at e2;rw [<-e2]
theorem mZ (l:List UInt8) (k:Nat) (h:k<l.length):l.take (k+1)=l.take k++[l.getD k 0]:=by
 rw [kR h];simp [h]
theorem Cf {a b:Int} (h:a=b):Value.int .u64 a=Value.int .u64 b:=by rw [h]
theorem ut {a b:Int} (h:a=b):Ending.returned (Value.int .i64 a) = .returned (Value.int .i64 b):=by rw [h]
set_option maxHeartbeats 400000 in
theorem uT (a:Nat) (l:List UInt8) (bad:Bool) (w:World) (h:IsR w a T l bad) :
  Calls Try.prog 72 #[.pointer (some ⟨a,0,none⟩)] w λe w'=>e = .returned (.bool (!bad&&l.isEmpty))/\w=w':=by
 obtain ⟨⟨ao,n,c,h1,h2,h3,h4⟩,hne⟩:=h;have hc0:w.cell? ⟨a,0,none⟩=some (.slice ao n c):=by rw [af h1];rfl
 have hc1:w.cell? ⟨a,1,none⟩=some (.bool bad):=by rw [af h1];rfl
 have he:l.isEmpty=((n:Int)==0):=by
  have:=h2.len;subst this;cases l with
  | nil=>rfl
  | cons x l =>
   rw [aX];have:¬(((l.length+1:Nat):Int)=0):=by omega
   simp only [List.isEmpty_cons];exact (be.2 this).symm
 rw [he];clear h1 h2 h4 he;cases bad;all_goals
  go_enter Try.func72,Try.ntmps72
  go_wp2
  go_ret
  exact ⟨rfl,rfl⟩
set_option maxHeartbeats 400000 in
theorem tq (a:Nat) (l:List UInt8) (bad:Bool) (w:World) (h:IsR w a T l bad) (hl:l.length<8) :
  Calls Try.prog 71 #[.pointer (some ⟨a,0,none⟩)] w λe w'=>e = .returned (.int .i64 0)/\IsR w' a T [] true/\Only [a] w w':=by
 have h':=h;obtain ⟨⟨ao,n,c,h1,h2,h3,h4⟩,hne⟩:=h;have hc0:w.cell? ⟨a,0,none⟩=some (.slice ao n c):=by rw [af h1];rfl
 have hn:n<8:=by have:=h2.len;omega
 clear h1 h2 h4 hl;have HR:=ab h';clear h';go_enter Try.func71,Try.ntmps71
 go_wp2_with fail
 refine (jY a l bad _ HR.out).mono ?_;rintro e w1 ⟨rfl,hr,ho⟩;go_wp2
 go_ret
 exact ⟨rfl,hr,ho⟩
set_option maxHeartbeats 400000 in
theorem tp (a:Nat) (l:List UInt8) (bad:Bool) (w:World) (h:IsR w a T l bad) (hl:8<=l.length) (hm:l.length<=140737488355328) :
  Calls Try.prog 71 #[.pointer (some ⟨a,0,none⟩)] w λe w'=>e = .returned (.int .i64 (ol l))/\IsR w' a T (l.drop 8) bad/\Only [a] w w':=by
 obtain ⟨⟨ao,n,c,h1,h2,h3,h4⟩,hne⟩:=h;have hc0:w.cell? ⟨a,0,none⟩=some (.slice ao n c):=by rw [af h1];rfl
 have hf0:=aO h1 0;have hlen:=h2.len;obtain ⟨b,off,rfl,hcb⟩:∃b off,ao=some ⟨b,off,none⟩/\∀i,i<n->w.cell? ⟨b,off+i,none⟩=some (.int .u8 ((l.getD i 0).toNat:Int)):=by
  rcases h2.at_ with h0 | h0
  ·omega
  ·exact h0
 have hn8:8<=n:=by omega
 have hn9:n<=140737488355328:=by omega
 have hc8:8<=c:=by omega
 have HL:=ab hlen;have HR:=ab h1;have HB:=ab h2;have HC:=ab hcb;have hba:T b:=h4 _ rfl;clear h1 h2 h4 hlen hl hm hcb;go_enter Try.func71,Try.ntmps71
 go_wp2_with fail
 go_loop [3,20] (λv i=>∃k:Nat,k<=8/\i = .int .i64 (k:Int)/\v = .int .u64 ((oy (l.take k):Nat):Int)) (λ_ i=>8 - (intOf i).toNat)
 case atStart=>exact ⟨0,by omega,rfl,rfl⟩
 case round =>
  obtain ⟨k,hk,rfl,rfl⟩:=hrel;by_cases hlt:k<8
  ·have hcell:=HC.out k (by omega);have hone:=mZ l k (by rw [HL.out];omega);have hlt8:=AG (l.take k) (by rw [aE];omega);generalize l.getD k 0=x at hcell hone;have HO:=ab hone;clear hone;have HV:=ab hlt8;clear hlt8;go_wp2_with fail
   go_round
   case rel=>exact ⟨k+1,by omega,by go_num,Cf (by rw [vw _ _ HV.out,HO.out,AF])⟩
   case measure=>simp [intOf];omega
  ·obtain rfl:k=8:=by omega
   generalize hv:oy (l.take 8)=v;have HV:=ab hv;clear hv;by_cases hcc:c=8
   ·subst hcc;obtain rfl:n=8:=by omega
    go_wp2_with fail
    go_ret
    refine ⟨ut (by unfold ol;rw [HV.out]),?_,(Only.refl [a] w).setCell (by simp) _⟩;rw [List.drop_of_length_le (by rw [HL.out];exact ah _)];exact lw HR.out (zR 0) (ah _) (λp hp=>by cases hp;exact hba) hne
   ·have hcx:¬(8=c):=by omega
    go_wp2_with fail
    go_ret
    refine ⟨ut (by unfold ol;rw [HV.out]),?_,(Only.refl [a] w).setCell (by simp) _⟩;exact lw HR.out (jM HB.out 8 _ hn8) (by omega) (λp hp=>by cases hp;exact hba) hne
structure Rd (α:Type) where
 v:α
 l:List UInt8
 bad:Bool
def rI (l:List UInt8) (bad:Bool):Rd Int:=if l.length<8 then ⟨0,[],true⟩ else ⟨ol l,l.drop 8,bad⟩
def rC (l:List UInt8) (bad:Bool) (dh:Int):Rd Int:=if (rI l bad).v<0\/dh<(rI l bad).v then ⟨0,[],true⟩ else rI l bad
def rT (l:List UInt8) (bad:Bool) (dh:Int):Rd ByteArray :=
 if ((rC l bad dh).l.length:Int)<(rC l bad dh).v then ⟨⟨#[]⟩,[],true⟩
 else ⟨ej ((rC l bad dh).l.take (rC l bad dh).v.toNat),(rC l bad dh).l.drop (rC l bad dh).v.toNat,(rC l bad dh).bad⟩
theorem Cj (l:List UInt8) (bad:Bool):(rI l bad).l.length<=l.length:=by
 unfold rI;split
 ·simp
 ·simp
theorem Cl (l:List UInt8) (bad:Bool) (dh:Int):(rC l bad dh).l.length<=l.length:=by
 unfold rC;split
 ·simp
 ·exact Cj l bad
theorem Ck (l:List UInt8) (bad:Bool) (dh:Int):0<=(rC l bad dh).v:=by
 unfold rC;split
 ·simp
 ·omega
theorem fZ (a:Nat) (l:List UInt8) (bad:Bool) (w:World) (h:IsR w a T l bad) (hm:l.length<=140737488355328) :
  Calls Try.prog 71 #[.pointer (some ⟨a,0,none⟩)] w λe w'=>e = .returned (.int .i64 (rI l bad).v)/\IsR w' a T (rI l bad).l (rI l bad).bad/\Only [a] w w':=by
 unfold rI;by_cases hl:l.length<8
 ·rw [ax hl];exact tq a l bad w h hl
 ·rw [aw hl];exact tp a l bad w h (by omega) hm
set_option maxHeartbeats 400000 in
theorem qS (a:Nat) (l:List UInt8) (bad:Bool) (dh:Int) (w:World) (h:IsR w a T l bad) (hm:l.length<=140737488355328) :
  Calls Try.prog 88 #[.pointer (some ⟨a,0,none⟩),.int .i64 dh] w λe w'=>e = .returned (.int .i64 (rC l bad dh).v)/\IsR w' a T (rC l bad dh).l (rC l bad dh).bad/\Only [a] w w':=by
 unfold rC;have hk:=fZ a l bad w h hm;clear h hm;generalize rI l bad=r at hk;obtain ⟨v,l1,bad1⟩:=r;simp only at hk ⊢;have HK:=ab hk;clear hk;by_cases h0:v<0
 ·rw [ax (.inl h0)];go_enter Try.func88,Try.ntmps88
  go_wp2_with fail
  refine HK.out.mono ?_;rintro e w1 ⟨rfl,hr,ho⟩;go_wp2_with fail
  refine (jY a _ _ _ hr).mono ?_;rintro e w2 ⟨rfl,hr2,ho2⟩;clear hr;go_wp2
  go_ret
  exact ⟨rfl,hr2,ho.trans ho2⟩
 ·by_cases h1:dh<v
  ·rw [ax (.inr h1)];go_enter Try.func88,Try.ntmps88
   go_wp2_with fail
   refine HK.out.mono ?_;rintro e w1 ⟨rfl,hr,ho⟩;go_wp2_with fail
   refine (jY a _ _ _ hr).mono ?_;rintro e w2 ⟨rfl,hr2,ho2⟩;clear hr;go_wp2
   go_ret
   exact ⟨rfl,hr2,ho.trans ho2⟩
  ·rw [aw (by omega)];go_enter Try.func88,Try.ntmps88
   go_wp2_with fail
   refine HK.out.mono ?_;rintro e w1 ⟨rfl,hr,ho⟩;go_wp2
   go_ret
   exact ⟨rfl,hr,ho⟩
theorem xf (p:Addr) (k:Nat):(p.add k).block=p.block:=by unfold Addr.add;split<;>simp
theorem zS {w:World} {p:Addr} {n c:Nat} {l:List UInt8} (h:IsB w (some p) n c l) (k c':Nat) (hk:k<=n):IsB w (some (p.add k)) (n - k) c' (l.drop k):=by
 rcases h.at_ with h3 | ⟨b',off',h4,h5⟩
 ·refine ⟨by rw [bw,h.len],(λe=>by cases e),.inl (by omega)⟩
 ·cases h4;rw [Addr.add_lit];exact jM h k c' hk
set_option maxHeartbeats 400000 in
theorem tn (a:Nat) (l:List UInt8) (bad:Bool) (dh:Int) (w:World) (h:IsR w a T l bad) (hm:l.length<=140737488355328) :
  Calls Try.prog 78 #[.pointer (some ⟨a,0,none⟩),.int .i64 dh] w λe w'=>e = .returned (.string (rT l bad dh).v)/\IsR w' a T (rT l bad dh).l (rT l bad dh).bad/\Only [a] w w':=by
 unfold rT;have hk:=qS a l bad dh w h hm;have hp:=Ck l bad dh;have hlen:=Cl l bad dh;generalize rC l bad dh=r at hk hp hlen;obtain ⟨v,l1,bad1⟩:=r;simp only at hk hp hlen ⊢;have hm1:l1.length<=140737488355328:=by omega
 clear h hm hlen;have HK:=ab hk;clear hk;obtain ⟨k,rfl⟩:=Int.eq_ofNat_of_zero_le hp;by_cases h0:l1.length<k
 ·rw [ax (by omega)];go_enter Try.func78,Try.ntmps78
  go_wp2_with fail
  refine HK.out.mono ?_;rintro e w1 ⟨rfl,hr,ho⟩;have hr':=hr;obtain ⟨⟨ao,n,c,h1,h2,h3,h4⟩,hne⟩:=hr';have hc0:w1.cell? ⟨a,0,none⟩=some (.slice ao n c):=by rw [af h1];rfl
  have hn:n<k:=by have:=h2.len;omega
  clear h1 h2 h4 h0;have HR:=ab hr;clear hr;go_wp2_with fail
  refine (jY a _ _ _ HR.out).mono ?_;rintro e w2 ⟨rfl,hr2,ho2⟩;go_wp2
  go_ret
  exact ⟨rfl,hr2,ho.trans ho2⟩
 ·rw [aw (by omega)];rw [dj];go_enter Try.func78,Try.ntmps78
  go_wp2_with fail
  refine HK.out.mono ?_;rintro e w1 ⟨rfl,hr,ho⟩;obtain ⟨⟨ao,n,c,h1,h2,h3,h4⟩,hne⟩:=hr;have hc0:w1.cell? ⟨a,0,none⟩=some (.slice ao n c):=by rw [af h1];rfl
  have hf0:=aO h1 0;have hlen:=h2.len;have hn:k<=n:=by omega
  have hconv:=gE w1 _ _ _ _ (lx h2 k hn);generalize hs:ej (l1.take k)=s at hconv;have HS:=ab hs;clear hs;have HR:=ab h1;clear h1;have HB:=ab h2;clear h2;have H4:=ab h4;clear h4;have HL:=ab hlen;have hn9:n<=140737488355328:=by omega
  clear hlen h0 hm1;cases ao with
  | none =>
   obtain ⟨rfl,rfl⟩:=HB.out.nil rfl;obtain rfl:k=0:=by omega
   go_wp2_with fail
   go_ret
   exact ⟨by rw [HS.out];rfl,lw HR.out HB.out (ah _) H4.out hne,ho.trans ((Only.refl [a] _).setCell (by simp) _)⟩
  | some p =>
   obtain ⟨b,off,ins⟩:=p;by_cases hkc:k=c
   ·subst hkc;obtain rfl:n=k:=by omega
    go_wp2_with fail
    go_ret
    refine ⟨by rw [HS.out];rfl,?_,ho.trans ((Only.refl [a] _).setCell (by simp) _)⟩;rw [List.drop_of_length_le (by rw [HL.out];exact ah _)];exact lw HR.out (nJ 0) (ah _) (λp hp=>by cases hp;exact H4.out _ rfl) hne
   ·go_wp2_with fail
    go_ret
    refine ⟨by rw [HS.out];rfl,?_,ho.trans ((Only.refl [a] _).setCell (by simp) _)⟩;exact lw HR.out (zS HB.out k _ hn) (by omega) (λp hp=>by cases hp;rw [xf];exact H4.out _ rfl) hne
theorem gz {w:World} {base:Nat} {e:TypeId} {v:Value} {l:List UInt8} (h:OwnB w base e v l) :
  ∃ao c,v = .slice ao l.length c/\IsB w ao l.length c l/\l.length<=c/\(∀p,ao=some p->base<=p.block/\p.block<w.heap.size):=by
 obtain ⟨ao,c,rfl,h1⟩:=h.isB;refine ⟨ao,c,rfl,h1,?_,?_⟩
 ·rcases h.2 with ⟨h2,h3⟩ | ⟨g,cap,cur,hv,hg,hh,hn,hm,hs,ht⟩
  ·have:l.length=0:=by simpa using h3
   omega
  ·cases hv;exact hn
 ·intro p hp;subst hp;exact h.lt p.block (by
   rcases h.2 with ⟨h2,h3⟩ | ⟨g,cap,cur,hv,hg,hh,hn,hm,hs,ht⟩
   ·cases h2
   ·cases hv;rfl)
set_option maxHeartbeats 400000 in
theorem yP (ao:Option Addr) (n c:Nat) (l:List UInt8) (w:World) (h:IsB w ao n c l) (hn:n<=1099511627776) :
  Calls Try.prog 64 #[.slice ao n c] w λe w'=>∃a,e = .returned (.pointer (some ⟨a,0,none⟩))/\IsR w' a (λb=>w.heap.size<=b/\b<a) l false/\w.heap.size<=a/\a<w'.heap.size/\Below w.heap.size w w':=by
 have hlen:=h.len;have hb1:([]:List UInt8).length+n<=140737488355328:=by simp;omega
 have HB:=ab h;clear h;go_enter Try.func64,Try.ntmps64
 go_wp2_with (at_builtin;refine cV rfl _ _ 29 rfl w.heap.size 5 Try.underlying29 iQ _ [] rfl (OwnB.new _ _ _ [] _ rfl _ rfl (by exact ah _) 0 rfl (by decide)) _ _ _ _ rfl (HB.out.alloc _) hb1 (by simp) ?_;intro v' w2 hown' hgr hb2;clear hgr;rw [bR] at hown';obtain ⟨a1,c1,hv1,hbs,hc1,hn1⟩:=gz hown';subst hv1;clear hown';rw [hlen] at hbs hc1)
 have hz:=hb2.size;go_ret
 refine ⟨w2.heap.size,rfl,⟨⟨_,_,_,aJ _ _,hbs.alloc _,hc1,λp hp=>hn1 p hp⟩,λh=>Nat.lt_irrefl _ h.2⟩,by simp at hz;omega,by simp,(((aB _ _).alloc (ah _) _).trans hb2).alloc (by simp at hz;omega) _⟩
theorem t6 (z:Int) (i:Nat):(fz z i).toNat=(BitVec.ofInt 64 z).toNat / 2 ^ (8*(7 - i)) % 256:=by
 unfold fz;rw [Du]
theorem AH (z:Int):oy (fI z)=(BitVec.ofInt 64 z).toNat:=by
 have h:=(BitVec.ofInt 64 z).isLt;simp only [oy,fI,List.foldl_cons,List.foldl_nil,oO,t6];generalize (BitVec.ofInt 64 z).toNat=M at *;simp only [Nat.reduceMul,Nat.reduceSub,Nat.reducePow];omega
theorem oq (z:Int):((BitVec.ofInt 64 z).toNat:Int)=z % 18446744073709551616:=by
 rw [BitVec.toNat_ofInt];have:(0:Int)<=z % ((2 ^ 64:Nat):Int):=Int.emod_nonneg _ (by decide);rw [Int.toNat_of_nonneg this];rfl
theorem jA (z:Int) (rest:List UInt8) (h1 : -9223372036854775808<=z) (h2:z<=9223372036854775807):ol (fI z++rest)=z:=by
 unfold ol;have h3:(fI z++rest).take 8=fI z:=by simp [fI]
 rw [h3,AH,oq];unfold wrap64;omega
theorem vt (l:List UInt8):(ej l).size=l.length:=by simp [ej,ByteArray.size]
theorem kz (z:Int) (rest:List UInt8) (bad:Bool) (h1 : -9223372036854775808<=z) (h2:z<=9223372036854775807):rI (fI z++rest) bad=⟨z,rest,bad⟩:=by
 unfold rI;rw [aw (by rw [ay,fs];omega),jA z rest h1 h2];rfl
theorem Cm (z:Int) (rest:List UInt8) (bad:Bool) (dh:Int) (h0:0<=z) (h1:z<=dh) (h2:dh<=9223372036854775807):rC (fI z++rest) bad dh=⟨z,rest,bad⟩:=by
 unfold rC;rw [kz z rest bad (by omega) (by omega),aw (by simp only;omega)]
theorem vu (s:ByteArray):ej s.data.toList=s:=by unfold ej;simp
theorem Ci (s:ByteArray) (rest:List UInt8) (bad:Bool) (dh:Int) (h1:(s.size:Int)<=dh) (h2:dh<=9223372036854775807):rT (xh s++rest) bad dh=⟨s,rest,bad⟩:=by
 unfold rT xh;rw [bH,Cm _ _ bad dh (by omega) h1 h2,aw (by simp only [ay,oK];omega)];simp only [dj];rw [<-oK s,List.take_left,List.drop_left,vu]
end Go.Proofs.Ytnicaicjgaoolaa
