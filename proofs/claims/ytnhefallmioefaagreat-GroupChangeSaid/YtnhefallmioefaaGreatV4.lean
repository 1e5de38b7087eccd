/-
  What the proof of the law leans on: contracts of the program's functions, one behind another. No condition.
-/
import Derived.Test.YtnhefallmioefaaGreatV0
import Derived.Test.YtnhefallmioefaaGreatV3
import Derived.Test.YtnhefallmioefaaGreatV2
import Derived.Test.YtnhefallmioefaaGreatV1
set_option linter.unusedVariables false
set_option linter.unusedSimpArgs false
namespace Go.Proofs.YtnhefallmioefaaGreat
open Go.RowKit Go.ChangeMaps Go.WideMaps Go.Maps
set_option maxRecDepth 20000
section
variable {w:World} {D:List Nat} {d:Nat} {s:Dk}
theorem uT (h:IsDk w D d s) (ho:s.off=false) (t:ByteArray) (ht:lq t) (hno:s.file=none\/t≠eX) :
  Calls Tryz.prog 85 #[.pointer (some ⟨d,0,none⟩),.string t] w λe w'=>e = .returned (.tuple #[.pointer none,.int .i64 4])/\Below w.heap.size w w':=by
 obtain ⟨⟨mb,k1,k2,k3⟩,k4,k5⟩:=h;refine wU ⟨⟨mb,k1,k2,k3⟩,k4,k5⟩ ho t ht (mb:=mb) (by rw [af k1];rfl) λw' hb=>?_;cases hf:s.file with
 | none =>
  rw [hf] at k3;obtain ⟨c,hm⟩:=k3;exact uH (bd hb (aQ hm) hm) t ht.1.2
 | some p =>
  obtain ⟨l,k⟩:=p;rw [hf] at k3;obtain ⟨c,fb,b0,v,hm,_⟩:=k3;refine tG (bd hb (aQ hm) hm) kX ht.1.2 (λe=>?_);rcases hno with h1 | h1
  ·rw [hf] at h1;cases h1
  ·exact h1 e.symm
structure Parts (w:World) (D:List Nat) (d:Nat) (s:Dk) (l:List UInt8) (k mb cc fb b0:Nat) (v:Value):Prop where
 hd:w.heap[d]? = some (.cells #[.int .i64 s.room,.bool s.off,.int .i64 s.lives,.map (some mb)] 69 (0,0))
 hm:w.heap[mb]? = some (.map #[⟨.string eX,.pointer (some ⟨fb,0,none⟩),b0⟩] cc)
 hb:b0<cc
 hf:w.heap[fb]? = some (.cells #[v,.int .i64 (k:Int)] 121 (0,0))
 ho:OwnB w 0 5 v l
 dD:d∈D
 mD:mb∈D
 fD:fb∈D
 vD:∀j,v.ownBlock=some j->j∈D
 lt:∀b∈D,b<w.heap.size
theorem IsDk.parts (h:IsDk w D d s) {l:List UInt8} {k:Nat} (hf:s.file=some (l,k)):∃mb cc fb b0 v,Parts w D d s l k mb cc fb b0 v:=by
 obtain ⟨⟨mb,k1,k2,k3⟩,k4,k5⟩:=h;rw [hf] at k3;obtain ⟨c,fb,b0,v,h1,h2,h3,h4,h5,h6⟩:=k3;exact ⟨mb,c,fb,b0,v,k1,h1,h2,h4,h5,k4,k2,h3,h6,k5⟩
theorem Parts.dk {l:List UInt8} {k mb cc fb b0:Nat} {v:Value} (h:Parts w D d s l k mb cc fb b0 v) (hf:s.file=some (l,k)):IsDk w D d s :=
 ⟨⟨mb,h.hd,h.mD,by rw [hf];exact ⟨cc,fb,b0,v,h.hm,h.hb,h.fD,h.hf,h.ho,h.vD⟩⟩,h.dD,h.lt⟩
theorem Parts.below {w':World} {l:List UInt8} {k mb cc fb b0:Nat} {v:Value} (h:Parts w D d s l k mb cc fb b0 v) (hb:Below w.heap.size w w'):Parts w' D d s l k mb cc fb b0 v :=
 ⟨bd hb (aQ h.hd) h.hd,bd hb (aQ h.hm) h.hm,h.hb,bd hb (aQ h.hf) h.hf,bu h.ho (Only.ofBelow hb []) (λb _=>by simp),h.dD,h.mD,h.fD,h.vD,λb hb2=>aE (h.lt b hb2) hb.size⟩
theorem Parts.set {l l':List UInt8} {k k' mb cc fb b0:Nat} {v v':Value} {w':World} {D':List Nat} {s':Dk} (h:Parts w D d s l k mb cc fb b0 v) (ho:Only [fb] w w') (hf:w'.heap[fb]? = some (.cells #[v',.int .i64 (k':Int)] 121 (0,0)))
  (hv:OwnB w 0 5 v' l') (hsub:∀b∈D,b∈D') (hvD:∀j,v'.ownBlock=some j->j∈D') (hlt:∀b∈D',b<w.heap.size) (hs':s'.room=s.room/\s'.off=s.off/\s'.lives=s.lives):Parts w' D' d s' l' k' mb cc fb b0 v':=by
 have n1:d≠fb:=fX h.hd h.hf (by simp);have n2:mb≠fb:=fX h.hm h.hf (by simp);have n3:fb∉v'.ownBlock.toList:=i8 hv h.hf (by simp);obtain ⟨e1,e2,e3⟩:=hs';refine ⟨by rw [e1,e2,e3];exact ho.keeps h.hd (by simpa using n1),ho.keeps h.hm (by simpa using n2),h.hb,hf,o6 hv ho (λj hj hm=>?_),hsub _ h.dD,hsub _ h.mD,hsub _ h.fD,hvD,λb hb=>aE (hlt b hb) ho.size⟩;rw [aj.1 hm] at hj;exact n3 (by rw [hj];simp)
theorem nV {l:List UInt8} {k mb cc fb b0:Nat} {v:Value} (h:Parts w D d s l k mb cc fb b0 v) (hf:s.file=some (l,k)) (ho:s.off=false) :
  Calls Tryz.prog 85 #[.pointer (some ⟨d,0,none⟩),.string eX] w λe w'=>e = .returned (.tuple #[.pointer (some ⟨fb,0,none⟩),.int .i64 0])/\Below w.heap.size w w' :=
 wT (h.dk hf) ho eX jA (mb:=mb) (by rw [af h.hd];rfl) λw' hb=>rz (bd hb (aQ h.hm) h.hm) kX
theorem uw (h:IsDk w D d s) (ho:s.off=false) (t:ByteArray) (ht:lq t) (hno:s.file=none\/t≠eX):Calls Tryz.prog 81 #[.pointer (some ⟨d,0,none⟩),.string t] w λe w'=>e = .returned (.tuple #[.slice none 0 0,.int .i64 4])/\Below w.heap.size w w':=by
 have HF:=ab (uT h ho t ht hno);clear h;go_enter Tryz.func81,Tryz.ntmps81
 go_wp2_with fail
 refine HF.out.mono ?_;rintro e w1 ⟨rfl,hb⟩;have HB:=ab hb;clear hb;go_wp2_with fail
 go_ret2
 exact ⟨rfl,HB.out⟩
theorem yz (h:IsDk w D d s) (ho:s.off=false) {l:List UInt8} {k:Nat} (hf:s.file=some (l,k)) (hl:l.length<=1048576) :
  Calls Tryz.prog 81 #[.pointer (some ⟨d,0,none⟩),.string eX] w λe w'=>∃v,e = .returned (.tuple #[v,.int .i64 0])/\OwnB w' w.heap.size 5 v l/\Below w.heap.size w w':=by
 obtain ⟨mb,cc,fb,b0,v,hp⟩:=h.parts hf;have HF:=ab (nV hp hf ho);have HP:=ab hp;clear h hp;go_enter Tryz.func81,Tryz.ntmps81
 go_wp2_with fail
 refine HF.out.mono ?_;rintro e w1 ⟨rfl,hb⟩;have HB:=ab hb;have HP1:=ab (HP.out.below hb);obtain ⟨ao,c,rfl,hi⟩:=HP1.out.ho.isB;have hc:w1.cell? ⟨fb,0,none⟩=some (.slice ao l.length c):=by rw [af HP1.out.hf];rfl
 have HI:=ab hi;clear hb hi;go_wp2_with fail
 refine (F.dd ao l.length c l w1 HI.out (by omega)).mono ?_;rintro e w2 ⟨v2,rfl,ho2,hb2⟩;have HO2:=ab (ho2.mono HB.out.size);have HB2:=ab (HB.out.trans (hb2.mono HB.out.size));clear ho2 hb2;go_wp2_with fail
 go_ret2
 exact ⟨v2,rfl,HO2.out,HB2.out⟩
theorem AL (h:IsDk w D d s) (ho:s.off=false) (hno:s.file=none):Calls Tryz.prog 115 #[.pointer (some ⟨d,0,none⟩),.string eX] w λe w'=>e = .returned (.int .i64 4)/\Below w.heap.size w w':=by
 have HF:=ab (uT h ho eX jA (.inl hno));clear h;go_enter Tryz.func115,Tryz.ntmps115
 go_wp2_with fail
 refine HF.out.mono ?_;rintro e w1 ⟨rfl,hb⟩;have HB:=ab hb;clear hb;go_wp2_with fail
 go_ret
 exact ⟨rfl,HB.out⟩
theorem yi (h:IsDk w D d s) (ho:s.off=false) {l:List UInt8} {k:Nat} (hf:s.file=some (l,k)) :
  Calls Tryz.prog 115 #[.pointer (some ⟨d,0,none⟩),.string eX] w λe w'=>e = .returned (.int .i64 0)/\IsDk w' D d { s with file:=some (l,l.length)}/\Only D w w':=by
 obtain ⟨mb,cc,fb,b0,v,hp⟩:=h.parts hf;have HF:=ab (nV hp hf ho);have HP:=ab hp;clear h hp;go_enter Tryz.func115,Tryz.ntmps115
 go_wp2_with fail
 refine HF.out.mono ?_;rintro e w1 ⟨rfl,hb⟩;have HB:=ab hb;have HP1:=ab (HP.out.below hb);obtain ⟨ao,c,rfl,hi⟩:=HP1.out.ho.isB;have hc:w1.cell? ⟨fb,0,none⟩=some (.slice ao l.length c):=by rw [af HP1.out.hf];rfl
 have hc1:w1.cell? ⟨fb,1,none⟩=some (.int .i64 (k:Int)):=by rw [af HP1.out.hf];rfl
 have hz1:=aM HP1.out.hf 1;clear hb hi;go_wp2_with fail
 go_ret
 have o9:Only [fb] w1 (w1.setCell ⟨fb,1,none⟩ (.int .i64 (l.length:Int))):=(Only.refl _ _).setCell (by simp) _;have hp9:=HP1.out.set (s':={ s with file:=some (l,l.length)}) o9 (aR HP1.out.hf 1 _) HP1.out.ho (λb hb=>hb) HP1.out.vD HP1.out.lt ⟨rfl,rfl,rfl⟩;exact ⟨rfl,hp9.dk rfl,(Only.ofBelow HB.out D).trans (o9.mono (by simpa using HP1.out.fD))⟩
theorem IsFile.only_d {w':World} {mb:Nat} {f:Option (List UInt8×Nat)} {cs:Array Value} (h:IsFile w D mb f) (ho:Only [d] w w') (hd:w.heap[d]? = some (.cells cs 69 (0,0))):IsFile w' D mb f:=by
 cases f with
 | none =>
  obtain ⟨c,h1⟩:=h;exact ⟨c,ho.keeps h1 (by simpa using fX h1 hd (by simp))⟩
 | some p =>
  obtain ⟨l,safe⟩:=p;obtain ⟨c,fb,b0,v,h1,h2,h3,h4,h5,h6⟩:=h;refine ⟨c,fb,b0,v,ho.keeps h1 (by simpa using fX h1 hd (by simp)),h2,h3,ho.keeps h4 (by simpa using fX h4 hd (by simp)),bu h5 ho (λb hb hm=>?_),h6⟩;exact i8 h5 hd (by simp) (by rw [aj.1 hm] at hb;rw [hb];simp)
theorem Cp (h:IsDk w D d s) (hl:s.lives<=1000000000) (hl0:0<=s.lives):Calls Tryz.prog 45 #[.pointer (some ⟨d,0,none⟩)] w λe w'=>e = .returned (.tuple #[])/\IsDk w' D d { s with off:=false,lives:=s.lives+1 }/\Only D w w':=by
 obtain ⟨⟨mb,k1,k2,k3⟩,k4,k5⟩:=h;have hc1:w.cell? ⟨d,1,none⟩=some (.bool s.off):=by rw [af k1];rfl
 have hc2:w.cell? ⟨d,2,none⟩=some (.int .i64 s.lives):=by rw [af k1];rfl
 have hz1:=aM k1 1;have hz2:=aM k1 2;have K:=ab (And.intro k1 (And.intro k2 (And.intro k3 (And.intro k4 k5))));have q1:IntKind.i64.wrap (s.lives+1)=s.lives+1:=IntWalk.i64_in _ (by omega);clear k1 k2 k3 k4 k5;go_enter Tryz.func45,Tryz.ntmps45
 go_wp2_with fail
 go_end0
 obtain ⟨k1,k2,k3,k4,k5⟩:=K.out;have o9:Only [d] w ((w.setCell ⟨d,2,none⟩ (.int .i64 (s.lives+1))).setCell ⟨d,1,none⟩ (.bool false)):=((Only.refl _ _).setCell (by simp) _).setCell (by simp) _;have hh:=aR (aR k1 2 (.int .i64 (s.lives+1))) 1 (.bool false);refine ⟨rfl,⟨⟨mb,hh,k2,?_⟩,k4,λb hb=>aE (k5 b hb) o9.size⟩,o9.mono (by simpa using k4)⟩;exact k3.only_d o9 k1
end
theorem sQ {p:Prop} (h:p:=by
 go_simp
 refine hK.out _ _ am (λam=>?_);clear hK K;refine bH ?_;refine cC 17 λK hK=>?_;go_simp
 refine hK.out _ _ am (λam=>?_);clear hK K;refine bH ?_;refine cC 18 λK hK=>?_;go_simp
 refine hK.out _ _ am (λam=>?_);clear hK K;refine bH ?_;refine cC 19 λK hK=>?_;go_simp
 refine hK.out _ _ am (λam=>?_);clear hK K;refine bH ?_;refine cC 20 λK hK=>?_;go_simp
 refine hK.out _ _ trivial (λam=>?_);clear hK K;refine bH ?_;refine fI ?_;go_wp2_with fail
 go_meet
 refine ⟨_,rfl,?_⟩;rw [<-HKK.out];exact IntWalk.i64_in _ (by omega)):p:=h
theorem pE {p:Prop} (h:p:=by
 refine hK.out _ _ am (λam=>?_);clear hK K;refine bH ?_;refine cC 15 λK hK=>?_;go_simp
 refine hK.out _ _ am (λam=>?_);clear hK K;refine bH ?_;refine cC 16 λK hK=>?_;exact sQ):p:=h
theorem xX {p:Prop} (h:p:=by
 refine hK.out _ _ am (λam=>?_);clear hK K;refine bH ?_;refine j5 3 15 (λK hK=>?_) λK hK=>?_
 ·go_simp
  exact pE
 ·go_simp
  refine hK.out _ _ am (λam=>?_);clear hK K;refine bH ?_;refine j5 3 16 (λK hK=>?_) λK hK=>?_
  ·go_simp
   refine hK.out _ _ am (λam=>?_);clear hK K;refine bH ?_;refine cC 16 λK hK=>?_;exact sQ
  ·go_simp
   refine hK.out _ _ am (λam=>?_);clear hK K;refine bH ?_;refine cC 3 λK hK=>?_;exact sQ):p:=h
theorem pD {p:Prop} (h:p:=by
 refine hK.out _ _ am (λam=>?_);clear hK K;refine bH ?_;refine cC 10 λK hK=>?_;go_simp
 exact pE):p:=h
theorem xW {p:Prop} (h:p:=by
 refine hK.out _ _ am (λam=>?_);clear hK K;refine bH ?_;refine j5 10 14 (λK hK=>?_) λK hK=>?_
 ·go_simp
  refine hK.out _ _ am (λam=>?_);clear hK K;refine bH ?_;refine cC 14 λK hK=>?_;go_simp
  exact pE
 ·go_simp
  exact pD):p:=h
theorem xV {p:Prop} (h:p:=by
 refine hK.out _ _ am (λam=>?_);clear hK K;refine bH ?_;refine j5 3 10 (λK hK=>?_) λK hK=>?_
 ·go_simp
  exact pD
 ·go_simp
  exact xX):p:=h
def stays (l:List UInt8) (k:Nat) (keep:Int):Nat:=k+(min (max keep 0) (l.length - k:Int)).toNat
def n6 (f:Option (List UInt8×Nat)) (keep:Int):Option (List UInt8×Nat):=match f with | none=>none | some (l,k)=>some (l.take (stays l k keep),stays l k keep)
def cS (s:Dk) (keep:Int):Dk:={ s with off:=true,file:=n6 s.file keep }
theorem qN {l:List UInt8} {k:Nat} (keep:Int) (h:k<=l.length):stays l k keep<=l.length:=by unfold stays;omega
section
variable {w:World} {D:List Nat} {d:Nat} {s:Dk}
theorem pi {ao:Option Addr} {n c k:Nat} {l:List UInt8} (h:IsB w ao n c l) (hk:k<=n):IsB w ao k c (l.take k):=by
 obtain ⟨h1,h2,h3⟩:=h;refine ⟨by rw [aI,h1];omega,λe=>⟨by have:=(h2 e).1;omega,(h2 e).2⟩,?_⟩;rcases h3 with h3 | ⟨b,off,h4,h5⟩
 ·exact .inl (by omega)
 ·refine .inr ⟨b,off,h4,λi hi=>?_⟩;rw [h5 i (by omega)];simp [List.getD,hi]
theorem uA {ao:Option Addr} {n c:Nat} {l:List UInt8} (h:OwnB w 0 5 (.slice ao n c) l):n<=c:=by
 rcases h.2 with ⟨h0,h1⟩ | ⟨g,cap,cur,hv,_,_,hn,_⟩
 ·cases h0;exact ah _
 ·cases hv;have h1:=h.1;simp at h1;omega
set_option maxHeartbeats 2000000 in
theorem wX (h:IsDk w D d s) (keep:Int) (hk0 : -9223372036854775808<=keep) (hk1:keep<=9223372036854775807) (hl:∀l k,s.file=some (l,k)->k<=l.length/\l.length<=1048576) :
  Calls Tryz.prog 44 #[.pointer (some ⟨d,0,none⟩),.int .i64 keep] w λe w'=>∃D',e = .returned (.tuple #[])/\IsDk w' D' d (cS s keep)/\Moves D D' w w':=by
 have H0:=ab h;obtain ⟨⟨mb,k1,k2,k3⟩,k4,k5⟩:=h;have hc1:w.cell? ⟨d,1,none⟩=some (.bool s.off):=by rw [af k1];rfl
 have hz1:=aM k1 1;have o1:Only [d] w (w.setCell ⟨d,1,none⟩ (.bool true)):=(Only.refl _ _).setCell (by simp) _;have hd1:=aR k1 1 (.bool true);have hc3:(w.setCell ⟨d,1,none⟩ (.bool true)).cell? ⟨d,3,none⟩=some (.map (some mb)):=by rw [af hd1];rfl
 have k31:=k3.only_d o1 k1;have HO1:=ab (o1.mono (T:=D) (by simpa using k4));have HD1:=ab hd1;have HK5:Hid (∀b∈D,b<(w.setCell ⟨d,1,none⟩ (.bool true)).heap.size):=ab (λb hb=>aE (k5 b hb) o1.size);cases hfile:s.file with
 | none =>
  rw [hfile] at k31;obtain ⟨c,hm⟩:=k31;have HM:=ab hm;have hr:=run_range_map (P:=Tryz.prog) (w.setCell ⟨d,1,none⟩ (.bool true)) 67 9 119 mb #[] c Tryz.underlying67 hm;have hn:∀ty,(Instr.next (.pointer (some ⟨(w.setCell ⟨d,1,none⟩ (.bool true)).heap.size,0,none⟩)) false ty).run Tryz.prog ((w.setCell ⟨d,1,none⟩ (.bool true)).alloc (.mapIter (some mb) c #[] c)) = .ok (.tuple #[.bool false]) ((w.setCell ⟨d,1,none⟩ (.bool true)).alloc (.mapIter (some mb) c #[] c)):=λty=>uE (aK _ _) (bb hm _);have hszq:(w.setCell ⟨d,1,none⟩ (.bool true)).heap.size=w.heap.size:=by simp
  rw [hszq] at hn hr;clear hszq;have hap:cS s keep=⟨s.room,true,s.lives,none⟩:=by unfold cS n6;rw [hfile]
  have HAP:=ab hap;have HFIN:Hid (IsDk ((w.setCell ⟨d,1,none⟩ (.bool true)).alloc (.mapIter (some mb) c #[] c)) D d ⟨s.room,true,s.lives,none⟩):=ab ((⟨⟨mb,hd1,k2,⟨c,hm⟩⟩,k4,HK5.out⟩:IsDk (w.setCell ⟨d,1,none⟩ (.bool true)) D d ⟨s.room,true,s.lives,none⟩).below ((az _ _).alloc (ah _) _));have HMV:Hid (Only D w ((w.setCell ⟨d,1,none⟩ (.bool true)).alloc (.mapIter (some mb) c #[] c))):=ab (HO1.out.alloc _);clear k1 k2 k3 k4 k5 o1 hd1 hm hap hfile;go_enter Tryz.func44,Tryz.ntmps44
  go_wp2_with fail
  generalize ((w.setCell ⟨d,1,none⟩ (.bool true)).alloc (.mapIter (some mb) c #[] c))=w1 at *;go_loopw [5] (λ_ wr=>wr=w1) (λ_ _=>0)
  case atStart=>rfl
  case round =>
   obtain rfl:=hrel;go_wp2_with fail
   go_end0
   exact ⟨D,rfl,by rw [HAP.out];exact HFIN.out,Moves.of_only HMV.out⟩
 | some p =>
  obtain ⟨l,kk0⟩:=p;obtain ⟨hkl,hll⟩:=hl l kk0 hfile;rw [hfile] at k31;obtain ⟨cc,fb,b0,v,hm,hb0,hfD,hf,ho,hov⟩:=k31;obtain ⟨w1,w2,hI⟩:=B1 hm hb0;obtain ⟨ao,c,rfl,hi⟩:=ho.isB;have hr:=hI.range;have hn:=hI.next;have he:=hI.entry;have HDN:=ab hI.done;have HLI:=ab (And.intro hI.l1 hI.l2);have HP2:Hid (Parts w2 D d { s with off:=true } l kk0 mb cc fb b0 (.slice ao l.length c)):=ab ((⟨hd1,hm,hb0,hf,ho,k4,k2,hfD,hov,HK5.out⟩:Parts (w.setCell ⟨d,1,none⟩ (.bool true)) D d { s with off:=true } l kk0 mb cc fb b0 (.slice ao l.length c)).below hI.b2);have HR2:=ab hI.b2;have HSZ2:=ab hI.sz;have hkk:(stays l kk0 keep:Int)=(kk0:Int)+min (max keep 0) ((l.length:Int) - (kk0:Int)):=by unfold stays;omega
  have hap:cS s keep=⟨s.room,true,s.lives,some (l.take (stays l kk0 keep),stays l kk0 keep)⟩:=by unfold cS n6;rw [hfile]
  have HAP:=ab hap;have hkl2:=qN keep hkl;generalize hkq:stays l kk0 keep=kk at *;have HKK:=ab hkk;clear k1 k2 k3 k4 k5 o1 hd1 hm hap hfile hf ho hov hI hkq hl hkk;simp only at hn he;have hszq:(w.setCell ⟨d,1,none⟩ (.bool true)).heap.size=w.heap.size:=by simp
  rw [hszq] at hn hr he HDN HLI HSZ2;clear hszq;generalize hX:w.heap.size=X at *;have HX:=ab hX;clear hX;go_enter Tryz.func44,Tryz.ntmps44
  go_wp2_with fail
  go_loopw [5] (λ_ wr=>wr=w1\/∃D' v',wr.heap[X]? = w2.heap[X]? /\ wr.heap[mb]? = w2.heap[mb]? /\ Parts wr D' d { s with off:=true } (l.take kk) kk mb cc fb b0 v'/\Moves D D' w2 wr) (λ_ wr=>kY wr X)
  case atStart=>exact .inl rfl
  case round =>
   rcases hrel with rfl | ⟨D',v',r1,r2,r3,r4⟩
   ·have hf0:=HP2.out.hf;have hc20:w2.cell? ⟨fb,0,none⟩=some (.slice ao l.length c):=by rw [af hf0];rfl
    have hc21:w2.cell? ⟨fb,1,none⟩=some (.int .i64 (kk0:Int)):=by rw [af hf0];rfl
    have hz21:=aM hf0 1;have q1:IntKind.i64.wrap ((l.length:Int) - (kk0:Int))=(l.length:Int) - (kk0:Int):=IntWalk.i64_in _ (by omega);clear hf0;go_upto_region 4 with (fail)
    go_cut [] (λwx=>∃y:Int,wx=w2.drew.setCell ⟨fb,1,none⟩ (.int .i64 y)/\y=(kk:Int))
    case first =>
     refine wp_region_held_drew (S:=λw'=>True) (by kernel_rfl) trivial (λam=>?_);refine aB 0 ?_;refine aB 1 ?_;refine aB 2 ?_;refine aB 4 ?_;refine aB 5 ?_;refine aB 6 ?_;refine aB 7 ?_;refine aB 8 ?_;refine aB 11 ?_;refine aB 12 ?_;refine aB 13 ?_;refine CW 3 9 14 (λK hK=>?_) (λK hK=>?_) λK hK=>?_
     ·go_simp
      refine hK.out _ _ am (λam=>?_);clear hK K;refine bH ?_;refine j5 9 14 (λK hK=>?_) λK hK=>?_
      ·go_simp
       exact xW
      ·go_simp
       refine hK.out _ _ am (λam=>?_);clear hK K;refine bH ?_;refine cC 9 λK hK=>?_;go_simp
       exact pD
     ·go_simp
      refine hK.out _ _ am (λam=>?_);clear hK K;refine bH ?_;refine CW 3 10 14 (λK hK=>?_) (λK hK=>?_) λK hK=>?_
      ·go_simp
       exact xW
      ·go_simp
       refine hK.out _ _ am (λam=>?_);clear hK K;refine bH ?_;refine j5 3 14 (λK hK=>?_) λK hK=>?_
       ·go_simp
        refine hK.out _ _ am (λam=>?_);clear hK K;refine bH ?_;refine cC 14 λK hK=>?_;go_simp
        exact pE
       ·go_simp
        exact xX
      ·go_simp
       exact xV
     ·go_simp
      refine hK.out _ _ am (λam=>?_);clear hK K;refine bH ?_;refine j5 3 9 (λK hK=>?_) λK hK=>?_
      ·go_simp
       refine hK.out _ _ am (λam=>?_);clear hK K;refine bH ?_;refine cC 9 λK hK=>?_;go_simp
       exact pD
      ·go_simp
       exact xV
    case rest =>
     obtain ⟨y,rfl,rfl⟩:=hcut;have o4:Only [fb] w2 (w2.drew.setCell ⟨fb,1,none⟩ (.int .i64 (kk:Int))):=(Only.refl [fb] w2).drew.setCell (by simp) _;have hf4:(w2.drew.setCell ⟨fb,1,none⟩ (.int .i64 (kk:Int))).heap[fb]? = some (.cells #[.slice ao l.length c,.int .i64 (kk:Int)] 121 (0,0)):=aR (w:=w2.drew) HP2.out.hf 1 _;have hpW:=HP2.out.set (s':={ s with off:=true }) o4 hf4 HP2.out.ho (λb hb=>hb) HP2.out.vD HP2.out.lt ⟨rfl,rfl,rfl⟩;have HFX:Hid (fb<X):=ab (by have:=HK5.out fb HP2.out.fD;have:=HX.out;simp at *;omega);have hiW:IsB (w2.drew.setCell ⟨fb,1,none⟩ (.int .i64 (kk:Int))) ao l.length c l:=by
       obtain ⟨a9,c9,e9,hi9⟩:=hpW.ho.isB;cases e9;exact hi9
     clear hc20 hc21 hz21;go_upto_region 5 with (fail)
     generalize (w2.drew.setCell ⟨fb,1,none⟩ (.int .i64 (kk:Int)))=W at *;have hcW:W.drew.cell? ⟨fb,1,none⟩=some (.int .i64 (kk:Int)):=by rw [af (show W.drew.heap[fb]? = _ from hf4)];rfl
     have HFV:Hid (W.drew.heap[fb]? = some (.cells #[.slice ao l.length c,.int .i64 (kk:Int)] 121 (0,0))):=ab hf4;have HIV:Hid (IsB W.drew ao kk c (l.take kk)):=ab ((pi hiW hkl2).below (bq W));have HPV:Hid (Parts W.drew D d { s with off:=true } l kk mb cc fb b0 (.slice ao l.length c)):=ab (hpW.below (bq W));have HOV:Hid (Only [fb] w2 W.drew):=ab o4.drew;have hkc:kk<=c:=aD hkl2 (uA hpW.ho);clear o4 hf4 hpW hiW;refine wp_region_held_drew (S:=λw'=>w'.cell? ⟨fb,1,none⟩=some (.int .i64 (kk:Int))) (by kernel_rfl) hcW (λam=>?_);refine aB 0 ?_;refine aB 1 ?_;refine aB 2 ?_;refine aB 3 ?_;refine aB 5 ?_;refine aB 6 ?_;refine aB 7 ?_;refine aB 8 ?_;generalize W.drew=V at *;refine cC 4 λK hK=>?_;have hy0:V.cell? ⟨fb,0,none⟩=some (.slice ao l.length c):=by rw [af HFV.out];rfl
     go_simp
     clear hy0;refine hK.out _ _ am (λam=>?_);clear hK K;refine bH ?_;refine cC 9 λK hK=>?_;go_simp
     refine hK.out _ _ am (λam=>?_);clear hK K;refine bH ?_;refine cC 10 λK hK=>?_;go_simp
     refine (F.dd ao kk c (l.take kk) _ HIV.out (by omega)).mono ?_;rintro e w5 ⟨v5,rfl,ho5,hb5⟩;have HB5:=ab hb5;have HO5:=ab ho5;have hh5:=cell_later hb5 am;clear ho5 hb5;go_wp2_with fail
     refine hK.out _ _ hh5 (λam=>?_);clear hK K;refine bH ?_;clear hh5;refine cC 11 λK hK=>?_;go_simp
     refine hK.out _ _ am (λam=>?_);clear hK K;refine bH ?_;refine cC 12 λK hK=>?_;go_simp
     refine hK.out _ _ am (λam=>?_);clear hK K;refine bH ?_;refine cC 13 λK hK=>?_;have hf5:=bd HB5.out (aQ HFV.out) HFV.out;have hy0:w5.cell? ⟨fb,0,none⟩=some (.slice ao l.length c):=by rw [af hf5];rfl
     have hz0:=aM hf5 0;have HF5:=ab hf5;obtain ⟨a5,c5,rfl,_⟩:=HO5.out.isB;have hlk:(l.take kk).length=kk:=by rw [aI];omega
     rw [hlk] at HO5;clear hf5 hlk;go_simp
     clear hy0 hz0;refine hK.out _ _ ((af (aR HF5.out 0 _) 1).trans rfl) (λam=>?_);clear hK K;refine bH ?_;refine fI ?_;go_wp2_with fail
     go_roundw
     case rel =>
       have o9:Only [fb] w5 (w5.setCell ⟨fb,0,none⟩ (.slice a5 kk c5)):=(Only.refl _ _).setCell (by simp) _;have hp5:=HPV.out.below HB5.out;have hv5:=HO5.out.mono (aH _);have hlt5:=mG hv5;have hp9:=hp5.set (D':=D++(Value.slice a5 kk c5).ownBlock.toList) (s':={ s with off:=true }) o9 (aR HF5.out 0 _) hv5 (λb hb=>by simp [hb]) (λj hj=>by simp [hj]) (λb hb=>by
         simp only [ap,dM] at hb;rcases hb with hb | hb
         ·exact hp5.lt b hb
         ·exact hlt5 b hb) ⟨rfl,rfl,rfl⟩
       have oall:Only [fb] w2 (w5.setCell ⟨fb,0,none⟩ (.slice a5 kk c5)):=(HOV.out.trans (Only.ofBelow HB5.out [fb])).trans o9;have n2:mb≠fb:=fX HPV.out.hm HPV.out.hf (by simp);have n1:X≠fb:=by have:=HFX.out;omega
       have hXlt:X<w2.heap.size:=by rw [HSZ2.out];omega
       have hszV:w2.heap.size<=V.heap.size:=HOV.out.size;refine .inr ⟨_,_,oall.block X hXlt (by simpa using n1),oall.block mb (aQ HP2.out.hm) (by simpa using n2),hp9,oall.mono (by simpa using HPV.out.fD),λb hb=>?_,λb hb=>by simp [hb]⟩;simp only [ap,dM] at hb;rcases hb with hb | hb
       · exact .inl hb
       · exact .inr (aD hszV (HO5.out.lt b hb).1)
     case measure =>
       have o9:Only [fb] w5 (w5.setCell ⟨fb,0,none⟩ (.slice a5 kk c5)):=(Only.refl _ _).setCell (by simp) _;have oall:Only [fb] w2 (w5.setCell ⟨fb,0,none⟩ (.slice a5 kk c5)):=(HOV.out.trans (Only.ofBelow HB5.out [fb])).trans o9;have n1:X≠fb:=by have:=HFX.out;omega
       have hXlt:X<w2.heap.size:=by rw [HSZ2.out];omega
       rw [rB (oall.block X hXlt (by simpa using n1)),HLI.out.1,HLI.out.2];omega
   ·have hd:=HDN.out;have hd2:=λty=>hd ty wr r1 r2;have R3:=ab r3;have R4:=ab r4;clear hd hn he r1 r2 r3 r4;go_wp2_with fail
    go_end0
    exact ⟨D',rfl,by rw [HAP.out];exact (⟨R3.out.hd,R3.out.hm,R3.out.hb,R3.out.hf,R3.out.ho,R3.out.dD,R3.out.mD,R3.out.fD,R3.out.vD,R3.out.lt⟩:Parts wr D' d ⟨s.room,true,s.lives,some (l.take kk,kk)⟩ (l.take kk) kk mb cc fb b0 v').dk rfl,((Moves.of_only HO1.out).trans (Moves.of_only (Only.ofBelow HR2.out D))).trans R4.out⟩
end
theorem Ct (w:World):Calls Tryz.prog 17 #[.int .i64 1048576] w λe w'=>∃d D,e = .returned (.tuple #[.pointer (some ⟨d,0,none⟩),.int .i64 0])/\IsDk w' D d ⟨1048576,false,1,none⟩/\Below w.heap.size w w'/\∀b∈D,w.heap.size<=b:=by
 have hb1:Below w.heap.size w (w.alloc (.map #[] 0)):=(az _ _).alloc (ah _) _;have hb2:Below w.heap.size w ((w.alloc (.map #[] 0)).alloc (.cells #[.int .i64 1048576,.bool false,.int .i64 1,.map (some w.heap.size)] 69)):=hb1.alloc (by simp) _;have hm:=bb (aK w (.map #[] 0)) (.cells #[.int .i64 1048576,.bool false,.int .i64 1,.map (some w.heap.size)] 69);have hd:=aK (w.alloc (.map #[] 0)) (.cells #[.int .i64 1048576,.bool false,.int .i64 1,.map (some w.heap.size)] 69);rw [show (w.alloc (.map #[] 0)).heap.size=w.heap.size+1 by simp] at hd;have hsz:((w.alloc (.map #[] 0)).alloc (.cells #[.int .i64 1048576,.bool false,.int .i64 1,.map (some w.heap.size)] 69)).heap.size=w.heap.size+2:=by simp
 have HB:=ab hb2;have HM:=ab hm;have HD:=ab hd;have HS:=ab hsz;clear hb1 hb2 hm hd hsz;have hmk:∀w:World,(Instr.makeMap 67 none).run Tryz.prog w = .ok (.map (some w.heap.size)) (w.alloc (.map #[] 0)):=λw=>by simp [Instr.makeMap,run_underlying Tryz.underlying67,Result.andThen]
 go_enter Tryz.func17,Tryz.ntmps17
 go_wp2_with fail
 go_ret2
 have hsz:=HS.out;refine ⟨w.heap.size+1,[w.heap.size+1,w.heap.size],by simp,⟨⟨w.heap.size,HD.out,by simp,0,HM.out⟩,by simp,λb hb=>?_⟩,HB.out,λb hb=>?_⟩
 ·simp at hb;rcases hb with rfl | rfl<;>omega
 ·simp at hb;rcases hb with rfl | rfl<;>omega
theorem xU {p:Prop} (h:p:=by
 refine aB 15 ?_;refine aB 16 ?_;refine cC 17 λK hK=>?_;have hy0:w5.cell? ⟨fb,0,none⟩=some (.slice ao l.length c):=by rw [af HF5.out];rfl
 have hz0:=aM HF5.out 0;obtain ⟨a5,c5,rfl,_⟩:=HO5.out.isB;have hlk:(l.take n).length=n:=by rw [aI];omega
 rw [hlk] at HO5 HO5V;go_simp
 clear hy0 hz0 hlk;have HF6:=ab (aR HF5.out 0 (.slice a5 n c5));refine hK.out _ _ trivial (λam=>?_);clear hK K;refine bH ?_;refine aB 18 ?_;refine aB 19 ?_;refine cC 20 λK hK=>?_;have hy1:(w5.setCell ⟨fb,0,none⟩ (.slice a5 n c5)).cell? ⟨fb,1,none⟩=some (.int .i64 (k:Int)):=by rw [af HF6.out];rfl
 have hz1:=aM HF6.out 1;go_simp
 clear hy1 hz1;refine hK.out _ _ trivial (λam=>?_);clear hK K;refine bH ?_;refine fI ?_;go_wp2_with fail
 go_meet
 exact ⟨w5,a5,c5,rfl,HO5.out,HB5.out,HO5V.out⟩):p:=h
theorem xT {p:Prop} (h:p:=by
 refine cC 8 λK hK=>?_;go_simp
 refine (F.dd ao n c (l.take n) _ HIV.out (by omega)).mono ?_;rintro e w5 ⟨v5,rfl,ho5,hb5⟩;have HB5:=ab hb5;have HO5:=ab (ho5.mono (aH _));have HO5V:=ab ho5;have HF5:=ab (bd hb5 (aQ HFV.out) HFV.out);clear ho5 hb5;go_wp2_with fail
 refine hK.out _ _ trivial (λam=>?_);clear hK K;refine bH ?_;exact xU):p:=h
section
variable {w:World} {D:List Nat} {d:Nat} {s:Dk}
set_option maxHeartbeats 2000000 in
theorem BK (h:IsDk w D d s) (ho:s.off=false) {l:List UInt8} {k:Nat} (hf:s.file=some (l,k)) (n:Nat) (hn:n<=l.length) (hl:l.length<=1048576) (hk:k<=l.length) :
  Calls Tryz.prog 53 #[.pointer (some ⟨d,0,none⟩),.string eX,.int .i64 (n:Int)] w λe w'=>∃D',e = .returned (.int .i64 0)/\IsDk w' D' d { s with file:=some (l.take n,min k n)}/\Moves D D' w w':=by
 obtain ⟨mb,cc,fb,b0,v,hp⟩:=h.parts hf;have HF:=ab (nV hp hf ho);have HP:=ab hp;have hnl:(n:Int)<=(l.length:Int):=by omega
 have g1:decide (l.length<n)=false:=aW (by omega);have g2:decide ((n:Int)<0)=false:=aW (by omega);clear h hp;go_enter Tryz.func53,Tryz.ntmps53
 go_wp2_with fail
 refine HF.out.mono ?_;rintro e W ⟨rfl,hb⟩;have HB:=ab hb;have HP1:=ab (HP.out.below hb);obtain ⟨ao,c,e1,hi⟩:=HP1.out.ho.isB;subst e1;have hc:W.cell? ⟨fb,0,none⟩=some (.slice ao l.length c):=by rw [af HP1.out.hf];rfl
 have hkc:n<=c:=aD hn (uA HP1.out.ho);have HIV:Hid (IsB W.drew ao n c (l.take n)):=ab ((pi hi hn).below (bq W));have HFV:Hid (W.drew.heap[fb]? = some (.cells #[.slice ao l.length c,.int .i64 (k:Int)] 121 (0,0))):=ab HP1.out.hf;have HPV:=ab (HP1.out.below (bq W));have HBV:Hid (Below w.heap.size w W.drew):=ab (hb.trans ((bq W).mono hb.size));clear hb hi;go_upto_region 6 with (fail)
 clear hc;go_cut [] (λwx=>∃w5 a5 c5,wx=(w5.setCell ⟨fb,0,none⟩ (.slice a5 n c5)).setCell ⟨fb,1,none⟩ (.int .i64 (min (k:Int) (n:Int)))/\OwnB w5 0 5 (.slice a5 n c5) (l.take n)/\Below W.drew.heap.size W.drew w5/\OwnB w5 W.drew.heap.size 5 (.slice a5 n c5) (l.take n))
 case first =>
  refine wp_region_held_drew (S:=λ_=>True) (by kernel_rfl) trivial (λam=>?_);refine aB 0 ?_;refine aB 1 ?_;refine aB 2 ?_;refine aB 3 ?_;refine aB 4 ?_;refine aB 6 ?_;refine aB 9 ?_;refine aB 10 ?_;refine aB 11 ?_;refine aB 13 ?_;generalize W.drew=V at *;refine j5 5 12 (λK hK=>?_) λK hK=>?_
  ·have hy0:V.cell? ⟨fb,0,none⟩=some (.slice ao l.length c):=by rw [af HFV.out];rfl
   go_simp
   clear hy0;refine hK.out _ _ trivial (λam=>?_);clear hK K;refine bH ?_;refine aB 7 ?_;refine j5 8 12 (λK hK=>?_) λK hK=>?_
   ·go_simp
    refine (F.dd ao n c (l.take n) _ HIV.out (by omega)).mono ?_;rintro e w5 ⟨v5,rfl,ho5,hb5⟩;have HB5:=ab hb5;have HO5:=ab (ho5.mono (aH _));have HO5V:=ab ho5;have HF5:=ab (bd hb5 (aQ HFV.out) HFV.out);clear ho5 hb5;go_wp2_with fail
    refine hK.out _ _ trivial (λam=>?_);clear hK K;refine bH ?_;refine cC 12 λK hK=>?_;have hy1:w5.cell? ⟨fb,1,none⟩=some (.int .i64 (k:Int)):=by rw [af HF5.out];rfl
    go_simp
    clear hy1;refine hK.out _ _ trivial (λam=>?_);clear hK K;refine bH ?_;refine aB 14 ?_;exact xU
   ·have hy1:V.cell? ⟨fb,1,none⟩=some (.int .i64 (k:Int)):=by rw [af HFV.out];rfl
    go_simp
    clear hy1;refine hK.out _ _ trivial (λam=>?_);clear hK K;refine bH ?_;refine aB 14 ?_;exact xT
  ·have hy1:V.cell? ⟨fb,1,none⟩=some (.int .i64 (k:Int)):=by rw [af HFV.out];rfl
   go_simp
   clear hy1;refine hK.out _ _ trivial (λam=>?_);clear hK K;refine bH ?_;refine aB 14 ?_;refine cC 5 λK hK=>?_;have hy0:V.cell? ⟨fb,0,none⟩=some (.slice ao l.length c):=by rw [af HFV.out];rfl
   go_simp
   clear hy0;refine hK.out _ _ trivial (λam=>?_);clear hK K;refine bH ?_;refine aB 7 ?_;exact xT
 case rest =>
  obtain ⟨w5,a5,c5,rfl,ho5,hb5,ho5v⟩:=hcut;have hp5:=HPV.out.below hb5;have o9:Only [fb] w5 ((w5.setCell ⟨fb,0,none⟩ (.slice a5 n c5)).setCell ⟨fb,1,none⟩ (.int .i64 (min (k:Int) (n:Int)))):=((Only.refl _ _).setCell (by simp) _).setCell (by simp) _;have hf9:=aR (aR hp5.hf 0 (.slice a5 n c5)) 1 (.int .i64 (min (k:Int) (n:Int)));have hlt5:=mG ho5;have hmin:((min k n:Nat):Int)=min (k:Int) (n:Int):=by omega
  have hp9:=hp5.set (k':=min k n) (D':=D++(Value.slice a5 n c5).ownBlock.toList) (s':={ s with file:=some (l.take n,min k n)}) o9 (by rw [hmin];exact hf9) ho5 (λb hb=>by simp [hb]) (λj hj=>by simp [hj]) (λb hb=>by
    simp only [ap,dM] at hb;rcases hb with hb | hb
    ·exact hp5.lt b hb
    ·exact hlt5 b hb) ⟨rfl,rfl,rfl⟩
  have HD9:=ab (hp9.dk rfl);have oall:Only D w ((w5.setCell ⟨fb,0,none⟩ (.slice a5 n c5)).setCell ⟨fb,1,none⟩ (.int .i64 (min (k:Int) (n:Int)))):=(Only.ofBelow (HBV.out.trans (hb5.mono HBV.out.size)) D).trans (o9.mono (by simpa using HPV.out.fD));have HM9:Hid (Moves D (D++(Value.slice a5 n c5).ownBlock.toList) w ((w5.setCell ⟨fb,0,none⟩ (.slice a5 n c5)).setCell ⟨fb,1,none⟩ (.int .i64 (min (k:Int) (n:Int))))):=ab ⟨oall,λb hb=>by
    simp only [ap,dM] at hb;rcases hb with hb | hb
    ·exact .inl hb
    ·exact .inr (aD HBV.out.size (ho5v.lt b hb).1),λb hb=>by simp [hb]⟩
  clear hp5 o9 hf9 hlt5 hmin hp9 oall ho5 ho5v hb5;go_wp2_with fail
  go_ret
  exact ⟨_,rfl,HD9.out,HM9.out⟩
end
end Go.Proofs.YtnhefallmioefaaGreat
namespace Go.Proofs.YtnhefallmioefaaGreat.F
open Go.Proofs.YtnhefallmioefaaGreat
open Go.RowKit
theorem oc (c:BitVec 32) (i:Nat):(b4 c i).toNat=c.toNat / 2 ^ (8*(3 - i)) % 256:=by unfold b4;rw [Dz]
theorem rh (c:BitVec 32):p8 (b4 c 0) (b4 c 1) (b4 c 2) (b4 c 3)=c:=by
 apply BitVec.eq_of_toNat_eq;rw [gQ,oc,oc,oc,oc];have:=c.isLt;simp only [Nat.reduceMul,Nat.reduceSub,Nat.reducePow];omega
theorem Ae (x0 x1 x2 x3:UInt8):lw (p8 x0 x1 x2 x3)=[x0,x1,x2,x3]:=by
 have h0:=x0.toNat_lt;have h1:=x1.toNat_lt;have h2:=x2.toNat_lt;have h3:=x3.toNat_lt;have e:∀(i:Nat) (y:UInt8),(p8 x0 x1 x2 x3).toNat / 2 ^ (8*(3 - i)) % 256=y.toNat->b4 (p8 x0 x1 x2 x3) i=y:=λi y h=>UInt8.toNat_inj.1 (by rw [oc,h]);unfold lw;rw [e 0 x0 (by rw [gQ];simp only [Nat.reduceMul,Nat.reduceSub,Nat.reducePow];omega),e 1 x1 (by rw [gQ];simp only [Nat.reduceMul,Nat.reduceSub,Nat.reducePow];omega),
  e 2 x2 (by rw [gQ];simp only [Nat.reduceMul,Nat.reduceSub,Nat.reducePow];omega),e 3 x3 (by rw [gQ];simp only [Nat.reduceMul,Nat.reduceSub,Nat.reducePow];omega)]
theorem BO {a b:BitVec 32} (h:lw a=lw b):a=b:=by
 unfold lw at h;simp only [List.cons.injEq,and_true] at h;rw [<-rh a,<-rh b,h.1,h.2.1,h.2.2.1,h.2.2.2]
theorem BP (l:List UInt8) (i:Nat) (h:i+4<=l.length):lw (jk l i)=(l.drop i).take 4:=by
 unfold jk;rw [Ae];apply List.ext_getElem?;intro j;rcases (by omega:j=0\/j=1\/j=2\/j=3\/4<=j) with rfl | rfl | rfl | rfl | h4
 ·simp [cE,fj,show i<l.length by omega]
 ·simp [cE,fj,show i+1<l.length by omega]
 ·simp [cE,fj,show i+2<l.length by omega]
 ·simp [cE,fj,show i+3<l.length by omega]
 ·rw [dR (by simpa using h4),dR (by simp;omega)]
theorem od (l:List UInt8) (i:Nat) (c:BitVec 32) (h:(l.drop i).take 4=lw c):jk l i=c:=by
 apply BO;have hl:i+4<=l.length:=by
  have:=DL List.length h;rw [aI,bz,mJ] at this;omega
 rw [BP l i hl,h]
theorem rm (rec rest:List UInt8) (h:rec.length<=20000):d6 (bV rec++rest)=(12+rec.length,0):=by
 have hl:=cX rec;have hL:(bV rec++rest).length=12+rec.length+rest.length:=by rw [ay,hl]
 have e:bV rec++rest=lw (BitVec.ofNat 32 rec.length)++(lw (~~~ (BitVec.ofNat 32 rec.length))++(lw (Crc.si (d7 rec++rec))++(rec++rest))):=by
  unfold bV d7;simp only [bD]
 have h0:jk (bV rec++rest) 0=BitVec.ofNat 32 rec.length:=od _ _ _ (by rw [e,List.drop_zero];rfl);have h4:jk (bV rec++rest) 4 = ~~~ (BitVec.ofNat 32 rec.length):=od _ _ _ (by rw [e];rfl);have h8:jk (bV rec++rest) 8=Crc.si (d7 rec++rec):=od _ _ _ (by rw [e];rfl);have hn:(BitVec.ofNat 32 rec.length).toNat=rec.length:=by rw [jT,Nat.mod_eq_of_lt (by omega)]
 have ht:(bV rec++rest).take 8=d7 rec:=by rw [e];rfl
 have hd:((bV rec++rest).drop 12).take rec.length=rec:=by
  have:(bV rec++rest).drop 12=rec++rest:=by rw [e];rfl
  rw [this,List.take_left]
 unfold d6;rw [aw (by omega),h0,h4,h8,hn,aw (by simp only [ne_eq,not_true_eq_false,false_or];omega),aw (by omega),ht,hd,aw (by simp)]
theorem pS (rec rest:List UInt8):((bV rec++rest).take (12+rec.length)).drop 12=rec:=by
 have e:bV rec++rest=(d7 rec++lw (Crc.si (d7 rec++rec)))++(rec++rest):=by unfold bV;simp only [bD]
 have hl:(d7 rec++lw (Crc.si (d7 rec++rec))).length=12:=rfl;rw [List.drop_take,show 12+rec.length - 12=rec.length by omega,e,jK hl,List.take_left]
theorem tC (rec:List UInt8) (h:rec.length<=20000) (j:Nat) (hj:j<12+rec.length):d6 ((bV rec).take j)=(0,1):=by
 have hl:=cX rec;have hlt:((bV rec).take j).length=j:=by rw [aI];omega
 unfold d6;by_cases h12:j<12
 ·rw [aA (by omega)]
 ·rw [aw (by omega)];have e:bV rec=lw (BitVec.ofNat 32 rec.length)++(lw (~~~ (BitVec.ofNat 32 rec.length))++(lw (Crc.si (d7 rec++rec))++rec)):=by
   unfold bV d7;simp only [bD]
  have h0:jk ((bV rec).take j) 0=BitVec.ofNat 32 rec.length:=od _ _ _ (by
   rw [List.drop_zero,cB,bi (by omega),e];rfl)
  have h4:jk ((bV rec).take j) 4 = ~~~ (BitVec.ofNat 32 rec.length):=od _ _ _ (by
   rw [List.drop_take,cB,bi (by omega),e];rfl)
  have hn:(BitVec.ofNat 32 rec.length).toNat=rec.length:=by rw [jT,Nat.mod_eq_of_lt (by omega)]
  rw [h0,h4,hn,aw (by simp only [ne_eq,not_true_eq_false,false_or];omega),aA (by omega)]
def aL (ls:List (List UInt8)):List UInt8:=ls.flatMap bV
theorem tW:aL []=[]:=rfl
theorem eh (r:List UInt8) (ls:List (List UInt8)):aL (r::ls)=bV r++aL ls:=rfl
theorem oC (ls ms:List (List UInt8)):aL (ls++ms)=aL ls++aL ms:=by simp [aL]
theorem pM (pre rest:List UInt8) (ls acc:List (List UInt8)) (h:∀r∈ls,r.length<=20000) (t:Nat) (ht:(aL ls++rest).length<=t) :
  gG (pre++(aL ls++rest)) t pre.length acc=gG (pre++(aL ls++rest)) (t - (aL ls).length) (pre.length+(aL ls).length) (acc++ls):=by
 induction ls generalizing pre acc t with
 | nil=>simp [tW]
 | cons r ls ih =>
  have hr:=h r (by simp);have hl:=cX r;have hlen:(aL (r::ls)++rest).length=12+r.length+(aL ls++rest).length:=by rw [eh,bD,ay,hl]
  obtain ⟨s,rfl⟩:∃s,t=s+1:=⟨t - 1,by omega⟩
  have hd:(pre++(aL (r::ls)++rest)).drop pre.length=bV r++(aL ls++rest):=by rw [List.drop_left,eh,bD]
  have hn:=rm r (aL ls++rest) hr;have hrec:=pS r (aL ls++rest);have e1:gG (pre++(aL (r::ls)++rest)) (s+1) pre.length acc=gG (pre++(aL (r::ls)++rest)) s (pre.length+(12+r.length)) (acc++[r]):=by
   show (if _ then _ else if _ then _ else _)=_;rw [hd,hn];simp only;rw [aw (by rw [ay,hlen];omega),aA trivial,hrec]
  rw [e1];have e2:pre++(aL (r::ls)++rest)=(pre++bV r)++(aL ls++rest):=by rw [eh];simp only [bD]
  have e3:pre.length+(12+r.length)=(pre++bV r).length:=by rw [ay,hl]
  rw [e2,e3,ih (pre++bV r) (acc++[r]) (λx hx=>h x (by simp [hx])) s (by omega)];rw [eh,ay,ay,hl];have hfl:(aL ls).length<=(aL ls++rest).length:=by rw [ay];omega
  rw [bD acc,List.singleton_append];rw [show pre.length+(12+r.length)+(aL ls).length=pre.length+(12+r.length+(aL ls).length) by omega];exact kg _ _ _ _ _ (by simp only [ay,hl] at hlen ht ⊢;omega) (by simp only [ay,hl] at hlen ht ⊢;omega)
theorem kK (ls:List (List UInt8)) (rest:List UInt8) (h:∀r∈ls,r.length<=20000) :
  cH (aL ls++rest)=gG (aL ls++rest) rest.length (aL ls).length ls:=by
 unfold cH;have:=pM [] rest ls [] h (aL ls++rest).length (ah _);simp only [cL,gM,cy] at this;rw [this];exact kg _ _ _ _ _ (by rw [ay];omega) (by rw [ay];omega)
theorem mZ (ls:List (List UInt8)) (h:∀r∈ls,r.length<=20000):cH (aL ls)=(ls,(aL ls).length,0):=by
 have:=kK ls [] h;rw [eo] at this;rw [this];rfl
theorem pO (ls:List (List UInt8)) (rest:List UInt8) (h:∀r∈ls,r.length<=20000) (h0:0<rest.length) (h1:¬(d6 rest).2=0):cH (aL ls++rest)=(ls,(aL ls).length,(d6 rest).2):=by
 rw [kK ls rest h];obtain ⟨t,ht⟩:∃t,rest.length=t+1:=⟨rest.length - 1,by omega⟩
 rw [ht];show (if _ then _ else if _ then _ else _)=_;rw [List.drop_left,aw (by rw [ay];omega),aw h1]
theorem pN (ls:List (List UInt8)) (r:List UInt8) (j:Nat) (h:∀r∈ls,r.length<=20000) (hr:r.length<=20000) (hj:j<12+r.length) :
  cH (aL ls++(bV r).take j)=(ls,(aL ls).length,if j=0 then 0 else 1):=by
 by_cases h0:j=0
 ·subst h0;rw [List.take_zero,eo,mZ ls h];rfl
 ·have hl:=cX r;have hn:=tC r hr j hj;rw [pO ls _ h (by rw [aI];omega) (by rw [hn];decide),hn,aw h0]
end Go.Proofs.YtnhefallmioefaaGreat.F
namespace Go.Proofs.YtnhefallmioefaaGreat
open Go.ChangeShapes Go.WideShapes Go.ChangeAt Go.RowKit
section
variable {H:Type} {enc:TypeId×Value->H} {P:Program}
end
end Go.Proofs.YtnhefallmioefaaGreat
