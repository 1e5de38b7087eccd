/- What the law leans on. No condition. -/
import Derived.Test.YtnhefallmioefaaGreatW0
import Derived.Deep.AppendLies
import Derived.Laws.OwnMore
import Derived.Deep.DeepCutAuto
import Derived.Deep.CutBlock
import Derived.Deep.RegionHeld
import Derived.Deep.RegionHeld3
import Derived.Deep.RegionWith
import Derived.Deep.RegionLaw
import Derived.BigRegion
import Derived.ProofKit
import Derived.OpenShut
import Derived.ShutString
import Derived.ChangeOld
import Derived.SizedLaws
import Derived.WalkKit
import Derived.Deep.Slices
import Derived.Test.YtnhefallmioefaaGreatRows
import Derived.Maps.Keyed
import Derived.DeepKeys4
import Derived.ChangeMaps5
import Derived.Deep.LoopGhost
import Derived.Carry
import Derived.Laws.Rows
import Derived.Laws.ResultCell
import Derived.BigQuiet
import Derived.Deep.QuietTactic
import Derived.Deep.OwnRows
import Derived.Lib.AppendStr
import Derived.Test.YtnhefallmioefaaGreatW1
set_option maxHeartbeats 8000000
set_option linter.unusedVariables false
set_option linter.unusedSimpArgs false
namespace Go.Proofs.YtnhefallmioefaaGreat
open Go.RowKit
def NK (w:World) (ao:Option Addr) (m:Nat) (news:List Value):Prop:=(ao=none/\m=0)\/∃ad,ao=some ad/\∀j u,news[j]? = some u->w.cell? (ad.add j)=some u
theorem kI {w w':World} {v:Value} (h:w.grownBy w' v.ownBlock):Only v.ownBlock.toList w w' :=
 ⟨h.os,h.tape,h.output,h.size,λk hk hn=>h.block k hk (λe=>hn (by rw [<-e];simp))⟩
theorem ej {w:World} {base n:Nat} {e:TypeId} {size:Nat} {v:Value} {xs:List Value} (h:w.ownsRow base e size v n xs):∃ao c,v = .slice ao n c/\n<=c/\c<=9223372036854775807:=by
 rcases h.2 with ⟨rfl,h0⟩ | ⟨g,cap,cur,rfl,_,_,hn,hm,_⟩
 ·exact ⟨none,0,by rw [h0],by omega,by decide⟩
 ·unfold maxLen at hm;exact ⟨_,cap,rfl,hn,by omega⟩
section
variable {P:Program} {w:World}
theorem pY (t ty e:TypeId) (i:TypeInfo) (z:Value) (size bytes:Nat) (ht:P.underlying t=some (.slice e)) (hi:P.info? e=some i) (hz:i.zero=some z)
  (hsize:i.size=size) (hby:i.bytes=bytes) (hzs:z.cells.size=size) (hsz:0<size)
  (v:Value) (n:Nat) (xs:List Value) (hown:w.ownsRow 0 e size v n xs)
  (ao:Option Addr) (m c:Nat) (hnil:ao=none->c=0) (news:List Value) (hl:news.length=m*size) (QX:NK w ao m news) (h1:∀u∈news,u.oneCell'=true)
  (h63:n+m<=maxLen) (hbytes:(n+m)*bytes<=140737488355328) :
  ∃v' w',(Builtin.append_ #[t,t] ty #[v,.slice ao m c]).run P w = .ok v' w'/\w'.ownsRow 0 e size v' (n+m) (xs++news)/\Only v.ownBlock.toList w w' /\
   (∀k,v'.ownBlock=some k->v.ownBlock=some k\/w.heap.size<=k):=by
 rcases QX with ⟨rfl,rfl⟩ | ⟨ad,rfl,hnews⟩
 ·obtain rfl:news=[]:=bP.1 (by simpa using hl);exact ⟨v,w,run_append_owned_none (P:=P) (w:=w) 0 t ty e i size ht hi v n xs hown,by simpa using hown,Only.refl _ _,λk hk=>.inl hk⟩
 ·obtain ⟨v',w',hr,h2,h3,_,h5⟩:=run_append_own_at (P:=P) w 0 t ty e i z size bytes ht hi hz hsize hby hzs hsz v n xs hown ad m c news hl hnews h1 h63 hbytes (aH _);refine ⟨v',w',hr,h2,kI h3,λk hk=>?_⟩;rcases h5 with h5 | h5
  ·exact .inl (by rw [<-h5];exact hk)
  ·right;rw [h5] at hk;cases hk;exact ah _
theorem fE {ops:Array Oper} {rest:List Oper} {o:Oper} {a:Act} {Q:Exit->Act->World->Prop} (hgd:o.guard=none) (s x:Operand) (t:TypeId)
  (ho:o.op = .call { callee:=.builtin .append,args:=#[s,x],argTypes:=#[t,t]})
  (e:TypeId) (i:TypeInfo) (z:Value) (size bytes:Nat) (ht:P.underlying t=some (.slice e)) (hi:P.info? e=some i) (hz:i.zero=some z)
  (hsize:i.size=size) (hby:i.bytes=bytes) (hzs:z.cells.size=size) (hsz:0<size)
  (v:Value) (n:Nat) (xs:List Value) (hs:a.eval s=v) (hown:w.ownsRow 0 e size v n xs)
  (ao:Option Addr) (m c:Nat) (hx:a.eval x = .slice ao m c) (hnil:ao=none->c=0) (news:List Value) (hl:news.length=m*size) (QX:NK w ao m news) (h1:∀u∈news,u.oneCell'=true)
  (h63:n+m<=maxLen) (hbytes:(n+m)*bytes<=140737488355328)
  (h:∀v' w',w'.ownsRow 0 e size v' (n+m) (xs++news)->Only v.ownBlock.toList w w'->(∀k,v'.ownBlock=some k->v.ownBlock=some k\/w.heap.size<=k)->wpList P ops Q rest (a.put o.dst v') w'):wpList P ops Q (o::rest) a w:=by
 obtain ⟨v',w',hr,h2,h3,h4⟩:=pY (w:=w) t o.type e i z size bytes ht hi hz hsize hby hzs hsz v n xs hown ao m c hnil news hl QX h1 h63 hbytes;refine wpList_plain hgd λK hK=>?_;unfold Oper.wp;simp [execOp,ho,resolve,invoke,builtin,hs,hx,hr,Result.andThen];exact hK _ _ (h v' w' h2 h3 h4)
theorem Pg.src {ao:Option Addr} {m c:Nat} {l:List UInt8} (h:Pg w ao m c l):NK w ao m (l.map bv):=by
 obtain ⟨h1,h2,h3⟩:=h;cases ao with
 | none=>exact .inl ⟨rfl,(h2 rfl).1⟩
 | some ad =>
  refine .inr ⟨ad,rfl,λj u hj=>?_⟩;rcases h3 with h3 | ⟨b,off,h4,h5⟩
  ·exact I8
  ·obtain rfl:ad=⟨b,off,none⟩:=by simpa using h4
   have PI:j<l.length:=JJ;exact Jt
theorem jO {ops:Array Oper} {rest:List Oper} {o:Oper} {a:Act} {Q:Exit->Act->World->Prop} (hgd:o.guard=none) (s x:Operand) (t:TypeId)
  (ho:o.op = .call { callee:=.builtin .append,args:=#[s,x],argTypes:=#[t,t]})
  (e:TypeId) (ht:P.underlying t=some (.slice e)) (hi:(P.info? e).map (λi=>(i.zero,i.size,i.bytes))=some (some (.int .u8 0),1,1))
  (v:Value) (l:List UInt8) (hs:a.eval s=v) (hown:OW w 0 e v l)
  (ao:Option Addr) (m c:Nat) (l2:List UInt8) (hx:a.eval x = .slice ao m c) (QX:Pg w ao m c l2) (hbytes:l.length+m<=140737488355328)
  (h:∀v' w',OW w' 0 e v' (l++l2)->Only v.ownBlock.toList w w'->(∀k,v'.ownBlock=some k->v.ownBlock=some k\/w.heap.size<=k)->wpList P ops Q rest (a.put o.dst v') w'):wpList P ops Q (o::rest) a w:=by
 obtain ⟨i0,Q4,hz0,hz1,hz2⟩:=info_parts hi;refine fE hgd s x t ho e i0 (.int .u8 0) 1 1 ht Q4 hz0 hz1 hz2 rfl dZ v _ _ hs hown ao m c hx (λe=>(QX.nil e).2) (l2.map bv) (by rw [aW,QX.len,Nat.mul_one]) QX.src ?_ kE az ?_
 ·exact GQ
 ·intro v' w' g1 g2 g3;refine h v' w' ?_ g2 g3;unfold OW;rw [aE,QX.len,cy];exact g1
end
open Go.ChangeMaps Go.WideMaps Go.Maps
set_option maxRecDepth 20000
theorem bK (w:World):Below w.heap.size w w.drew:=⟨rfl,rfl,rfl,ah _,λ_ _=>rfl⟩
def FP (f:Option (List UInt8×Nat)) (l:List UInt8):Option (List UInt8×Nat):=match f with | none=>some (l,0) | some (m,k)=>some (m++l,k)
def nw (s:Dk) (l:List UInt8):Dk:={ s with file:=FP s.file l }
section
variable {w:World} {D:List Nat} {d:Nat} {s:Dk}
theorem xe (h:O6 w D d s) (ho:s.off=false) (t:ByteArray) (ht:oI t) (ao:Option Addr) (n c:Nat) (hr:s.room - (s.total:Int)<(n:Int)) (h0:0<=s.room) (h1:s.room<=1048576) (h2:(s.total:Int)<=s.room) :
  Calls Tryz.prog 113 #[.pointer (some ⟨d,0,none⟩),.string t,.slice ao n c] w λe w'=>e = .returned (.int .i64 9)/\Below w.heap.size w w':=by
 have hb:Below w.heap.size w (w.alloc (.cells #[.string t] 9)):=(aG _ _).alloc (ah _) _;have hW:=h.below hb;have HM:=af (yh hW ho w.heap.size t vP ht);have HB:=af hb;have HTO:Hid (∀w',Below (w.alloc (.cells #[.string t] 9)).heap.size (w.alloc (.cells #[.string t] 9)) w'->Calls Tryz.prog 116 #[.pointer (some ⟨d,0,none⟩)] w' λe w''=>e = .returned (.int .i64 (s.total:Int))/\Below w'.heap.size w' w''):=af λw' hb=>sy (hW.below hb);obtain ⟨⟨mb,k1,_⟩,_⟩:=hW;have WM:∀w',Below (w.alloc (.cells #[.string t] 9)).heap.size (w.alloc (.cells #[.string t] 9)) w'->w'.cell? ⟨d,0,none⟩=some (.int .i64 s.room):=λw' hb=>by rw [ap (bA hb (bg k1) k1)];rfl
 clear h hb k1;generalize s.total=T at *;generalize s.room=R at *;have q1:IntKind.i64.wrap (R - (T:Int))=R - (T:Int):=IntWalk.i64_in _ az;go_enter Tryz.func113,Tryz.ntmps113
 go_wp2_with fail
 refine HM.out.mono ?_;rintro e w1 ⟨rfl,rfl⟩;go_upto_region 4 with (fail)
 generalize w.alloc (.cells #[.string t] 9)=W at *;refine wp_region_held_drew (S:=λw'=>Below W.heap.size W w') dW (bK W) (λaD=>?_);refine aJ 0 ?_;refine aJ 1 ?_;refine aJ 2 ?_;refine aJ 3 ?_;refine aJ 4 ?_;refine aJ 5 ?_;refine aJ 6 ?_;refine dh 7 λK hK=>?_;go_simp
 refine (HTO.out _ (by exact bK _)).mono ?_;rintro e w5 ⟨rfl,PA⟩;have Q6:=af PA;go_wp2_with fail
 refine hK.out _ _ (aD.trans (PA.mono aD.size)) (λaD=>?_);clear hK K;refine bX ?_;clear PA;refine dh 8 λK hK=>?_;go_simp
 refine hK.out _ _ aD (λaD=>?_);clear hK K;refine bX ?_;refine dh 9 λK hK=>?_;go_simp
 refine hK.out _ _ aD (λaD=>?_);clear hK K;refine bX ?_;refine iX ?_;go_wp2_with fail
 go_ret
 exact ⟨rfl,HB.out.trans (((bK W).trans (Q6.out.mono (ah _))).mono HB.out.size)⟩
theorem ia {w:World} {a b:Nat} {x y:Obj} (h1:w.heap[a]? = some x) (h2:w.heap[b]? = some y) (hne:x≠y):a≠b:=by
 intro e;rw [e,h2] at h1;exact hne (rV h1).symm
theorem kA {w:World} {b:Nat} {v:Value} {l:List UInt8} {o:Obj} (ho:OW w 0 5 v l) (h:w.heap[b]? = some o) (hne:∀cur,o ≠ .cells cur 5 (0,0)):b∉v.ownBlock.toList:=MM
theorem sL {w w':World} {S:List Nat} {v:Value} {l:List UInt8} (ho:OW w 0 5 v l) (h:Only S w w') (hS:∀k,v.ownBlock=some k->k∉S):OW w' 0 5 v l:=bR ho h hS
theorem qf {w:World} {v:Value} {l:List UInt8} (ho:OW w 0 5 v l):∀k,v.ownBlock=some k->k<w.heap.size:=λk hk=>(ho.lt k hk).2
theorem wR {w8:World} {D':List Nat} {d mb fb cc b0:Nat} {room lives:Int} {off:Bool} {x v8:Value} {safe:Nat} {l8:List UInt8}
  (k1:w8.heap[d]? = some (.cells #[.int .i64 room,.bool off,.int .i64 lives,.map (some mb)] 69 (0,0))) (m8:w8.heap[mb]? = some (.map #[⟨.string gf,.pointer (some ⟨fb,0,none⟩),b0⟩] cc)) (hb0:b0<cc)
  (f8:w8.heap[fb]? = some (.cells #[x,.int .i64 (safe:Int)] 121 (0,0))) (o8:OW w8 0 5 v8 l8) (hd:d∈D') (hm:mb∈D') (hf:fb∈D') (ho:∀k,v8.ownBlock=some k->k∈D') (hlt:∀b∈D',b<w8.heap.size) :
  O6 (w8.setCell ⟨fb,0,none⟩ v8) D' d ⟨room,off,lives,some (l8,safe)⟩:=by
 have ow:Only [fb] w8 (w8.setCell ⟨fb,0,none⟩ v8):=(Only.refl _ _).setCell bL _;have n1:d≠fb:=ia k1 f8 bL;have n2:mb≠fb:=ia m8 f8 bL;have n3:fb∉v8.ownBlock.toList:=kA o8 f8 bL;refine ⟨⟨mb,ow.keeps k1 (by simpa using n1),hm,cc,fb,b0,v8,ow.keeps m8 (by simpa using n2),hb0,hf,be f8 0 v8,sL o8 ow (λk hk hm=>?_),ho⟩,hd,λb hb=>aK (hlt b hb) ow.size⟩;rw [aj.1 hm] at hk;exact n3 (by rw [hk];simp)
theorem oh:gf.size<=20:=dZ
theorem Cc (h:O6 w D d s) (ho:s.off=false) (ao:Option Addr) (n c:Nat) (l:List UInt8) (hi:Pg w ao n c l) (hr:(n:Int)<=s.room - (s.total:Int)) (h1:s.room<=1048576) :
  Calls Tryz.prog 113 #[.pointer (some ⟨d,0,none⟩),.string gf,.slice ao n c] w λe w'=>∃D',e = .returned (.int .i64 0)/\O6 w' D' d (nw s l)/\OY D D' w w':=by
 have hb:Below w.heap.size w (w.alloc (.cells #[.string gf] 9)):=(aG _ _).alloc (ah _) _;have hW:=h.below hb;have HM:=af (yh hW ho w.heap.size gf vP lm);have HB:=af hb;have HI:=af (hi.below hb);have HTO:Hid (∀w',Below (w.alloc (.cells #[.string gf] 9)).heap.size (w.alloc (.cells #[.string gf] 9)) w'->Calls Tryz.prog 116 #[.pointer (some ⟨d,0,none⟩)] w' λe w''=>e = .returned (.int .i64 (s.total:Int))/\Below w'.heap.size w' w''):=af λw' hb=>sy (hW.below hb);have HW:=af hW;obtain ⟨⟨mb,k1,k2,k3⟩,k4,k5⟩:=hW;have WM:∀w',Below (w.alloc (.cells #[.string gf] 9)).heap.size (w.alloc (.cells #[.string gf] 9)) w'->w'.cell? ⟨d,0,none⟩=some (.int .i64 s.room):=λw' hb=>by rw [ap (bA hb (bg k1) k1)];rfl
 have HK:=af (And.intro k1 (And.intro k2 (And.intro k3 (And.intro k4 k5))));have h2:(0:Int)<=(s.total:Int):=az;clear h hb k1 k2 k3 k4 k5 hi;generalize hTT:s.total=T at *;generalize hRR:s.room=R at *;have q1:IntKind.i64.wrap (R - (T:Int))=R - (T:Int):=IntWalk.i64_in _ az;have HTT:=af hTT;have HRR:=af hRR;clear hTT hRR;go_enter Tryz.func113,Tryz.ntmps113
 go_wp2_with fail
 refine HM.out.mono ?_;rintro e w1 ⟨rfl,rfl⟩;go_upto_region 4 with (fail)
 generalize w.alloc (.cells #[.string gf] 9)=W at *;refine wp_region_held_drew (S:=λw'=>Below W.heap.size W w') dW (bK W) (λaD=>?_);refine aJ 0 ?_;refine aJ 1 ?_;refine aJ 2 ?_;refine aJ 3 ?_;refine aJ 4 ?_;refine aJ 5 ?_;refine aJ 6 ?_;refine dh 7 λK hK=>?_;go_simp
 refine (HTO.out _ (by exact bK _)).mono ?_;rintro e w5 ⟨rfl,PA⟩;have Q6:=af PA;go_wp2_with fail
 refine hK.out _ _ (aD.trans (PA.mono aD.size)) (λaD=>?_);clear hK K;refine bX ?_;clear PA;refine dh 8 λK hK=>?_;go_simp
 refine hK.out _ _ aD (λaD=>?_);clear hK K;refine bX ?_;refine dh 9 λK hK=>?_;go_simp
 refine hK.out _ _ aD (λaD=>?_);clear hK K;refine bX ?_;refine iX ?_;have SE:Below W.heap.size W w5:=(bK W).trans Q6.out;have HI5:=af (HI.out.below SE);have TQ:=af (HB.out.trans (SE.mono HB.out.size));obtain ⟨k1,k2,k3,k4,k5⟩:=HK.out;have K1:=af (bA SE (bg k1) k1);have K3:=af (k3.keep (Only.OL SE []) k2 (λb _=>by simp));have K5:Hid (∀b∈D,b<w5.heap.size):=af (λb hb=>aK (k5 b hb) SE.size);have hc3:w5.cell? ⟨d,3,none⟩=some (.map (some mb)):=by rw [ap K1.out];rfl
 have hWsz:=SE.size;clear k1 k3 k5 SE WM aD HW HK HM HTO;cases Qc:s.file with
 | none =>
  rw [Qc] at K3;obtain ⟨cc,hm⟩:=K3.out;have hl:=zE hm gf oh;have hm6:=bD hm (.cells #[.slice none 0 0,.int .i64 0] 121);have hput:=GA hm6 gf (.pointer (some ⟨w5.heap.size,0,none⟩)) oh;have o7:=ma (w5.alloc (.cells #[.slice none 0 0,.int .i64 0] 121)) mb (.map #[⟨.string gf,.pointer (some ⟨w5.heap.size,0,none⟩),cc⟩] (cc+1));have hmlt:=bg hm;have m7:=pK (w5.alloc (.cells #[.slice none 0 0,.int .i64 0] 121)) mb (.map #[⟨.string gf,.pointer (some ⟨w5.heap.size,0,none⟩),cc⟩] (cc+1)) (bg hm6);have f7:=o7.keeps (aV w5 (.cells #[.slice none 0 0,.int .i64 0] 121)) gD;have dne:d≠mb:=ia K1.out hm bL;have k7:=o7.keeps (bD K1.out (.cells #[.slice none 0 0,.int .i64 0] 121)) (by simpa using dne);have Re:(w5.alloc (.cells #[.slice none 0 0,.int .i64 0] 121)).cell? ⟨d,3,none⟩=some (.map (some mb)):=by rw [ap (bD K1.out _)];rfl
  have oA:Only [mb] w5 (setBlock (w5.alloc (.cells #[.slice none 0 0,.int .i64 0] 121)) mb (.map #[⟨.string gf,.pointer (some ⟨w5.heap.size,0,none⟩),cc⟩] (cc+1))):=((Only.refl [mb] w5).alloc _).trans o7;have hI7:Pg (setBlock (w5.alloc (.cells #[.slice none 0 0,.int .i64 0] 121)) mb (.map #[⟨.string gf,.pointer (some ⟨w5.heap.size,0,none⟩),cc⟩] (cc+1))) ao n c l:=j6 HI5.out oA (by intro b off i hb;simp;intro e;subst e;exact yu HI5.out hb hm);have hsz7:(setBlock (w5.alloc (.cells #[.slice none 0 0,.int .i64 0] 121)) mb (.map #[⟨.string gf,.pointer (some ⟨w5.heap.size,0,none⟩),cc⟩] (cc+1))).heap.size=w5.heap.size+1:=by simp [setBlock]
  have hfc:=ap f7 0;have HM7:=af m7;have HF7:=af f7;have HK7:=af k7;have HOA:=af oA;have HI7:=af hI7;have HSZ7:=af hsz7;have hfc0:(setBlock (w5.alloc (.cells #[.slice none 0 0,.int .i64 0] 121)) mb (.map #[⟨.string gf,.pointer (some ⟨w5.heap.size,0,none⟩),cc⟩] (cc+1))).cell? ⟨w5.heap.size,0,none⟩=some (.slice none 0 0):=by rw [ap f7];rfl
  have YN:([]:List UInt8).length+n<=140737488355328:=gD;have hmD:=k2;clear hm hm6 o7 m7 f7 dne k7 oA hI7 hsz7 hfc K3;go_wp2_with (at_builtin;refine jO rfl (.tmp 46) (.tmp 47) 31 rfl 5 Tryz.underlying31 F.j7 (.slice none 0 0) [] rfl (OW.nil _ _ _) ao n c l rfl HI7.out YN ?_;intro v8 w8 TG U8 fr8;rw [cC] at TG;have HO8:=af TG;have Zk:=af U8;have Tp:=af (U8.keeps HF7.out G5);have XQ:=af fr8;have Rq:w8.cell? ⟨w5.heap.size,0,none⟩=some (.slice none 0 0):=(ap Tp.out 0).trans rfl;have hz8:=aU Tp.out 0;obtain ⟨a8,c8,e8,_,_⟩:=ej TG;subst e8;clear TG U8 fr8)
  go_ret
  have hap:nw s l=⟨R,s.off,s.lives,some (l,0)⟩:=by unfold nw FP;rw [Qc,HRR.out]
  have U8:=Zk.out;have hK8:=U8.keeps HK7.out G5;have hM8:=U8.keeps HM7.out G5;have TR:=U8.size;have hs7:=HSZ7.out;have fr8:=XQ.out;have VT:=qf HO8.out;rw [hap];refine ⟨D++w5.heap.size::(Value.slice a8 l.length c8).ownBlock.toList,rfl,wR hK8 hM8 (Nat.lt_succ_self _) Tp.out HO8.out (by simp [k4]) (by simp [k2]) bL (λk hk=>by simp [hk]) (λb hb=>?_),(OY.QN TQ.out).trans ⟨?_,λb hb=>?_,λb hb=>by simp [hb]⟩⟩
  ·simp only [aA,cA,eF] at hb;rcases hb with hb | rfl | hb
   ·have:=K5.out b hb;omega
   ·omega
   ·exact VT b hb
  ·have o9:Only [w5.heap.size] w8 (w8.setCell ⟨w5.heap.size,0,none⟩ (.slice a8 l.length c8)):=(Only.refl _ _).setCell bL _;have TX:=((HOA.out.mono (T:=[mb,w5.heap.size]) bL).trans (U8.mono G5)).trans (o9.mono (T:=[mb,w5.heap.size]) bL);exact TX.cut (λk hk hlt=>by
    simp at hk;rcases hk with rfl | rfl
    ·exact k2
    ·omega)
  ·simp only [aA,cA,eF] at hb;rcases hb with hb | rfl | hb
   ·exact .inl hb
   ·exact .inr (ah _)
   ·rcases fr8 b hb with h8 | h8
    ·simp [Value.ownBlock] at h8
    ·right;omega
 | some p =>
  obtain ⟨m,kk⟩:=p;rw [Qc] at K3;obtain ⟨cc,fb,b0,v,hm,hb0,hfD,hf,PS,hov⟩:=K3.out;have hT:T=m.length:=by rw [<-HTT.out];unfold Dk.total;rw [Qc]
  obtain ⟨a0,c0,rfl,_,_⟩:=ej PS;have hl:=vT hm oh;have hfc:w5.cell? ⟨fb,0,none⟩=some (.slice a0 m.length c0):=by rw [ap hf];rfl
  have YN:m.length+n<=140737488355328:=az;have HM5:=af hm;have Z4:=af hf;have RJ:=af PS;have HOV:=af hov;have N1:Hid (fb∉(Value.slice a0 m.length c0).ownBlock.toList):=af (kA PS hf bL);clear hm hf PS hov K3;go_wp2_with (at_builtin;refine jO rfl (.tmp 46) (.tmp 47) 31 rfl 5 Tryz.underlying31 F.j7 (.slice a0 m.length c0) m rfl RJ.out ao n c l rfl HI5.out YN ?_;intro v8 w8 TG U8 fr8;have HO8:=af TG;have Zk:=af U8;have Tp:=af (U8.keeps Z4.out N1.out);have XQ:=af fr8;have Rq:w8.cell? ⟨fb,0,none⟩=some (.slice a0 m.length c0):=(ap Tp.out 0).trans rfl;have hz8:=aU Tp.out 0;obtain ⟨a8,c8,e8,_,_⟩:=ej TG;subst e8;clear TG U8 fr8)
  go_ret
  have hap:nw s l=⟨R,s.off,s.lives,some (m++l,kk)⟩:=by unfold nw FP;rw [Qc,HRR.out]
  have HO9:OW w8 0 5 (.slice a8 (m.length+l.length) c8) (m++l):=by rw [<-aE];exact HO8.out
  rw [aE] at XQ;have U8:=Zk.out;have hK8:=U8.keeps K1.out (kA RJ.out K1.out bL);have hM8:=U8.keeps HM5.out (kA RJ.out HM5.out bL);have TR:=U8.size;have fr8:=XQ.out;have VT:=qf HO9;rw [hap];refine ⟨D++(Value.slice a8 (m.length+l.length) c8).ownBlock.toList,rfl,wR hK8 hM8 hb0 Tp.out HO9 (by simp [k4]) (by simp [k2]) (by simp [hfD]) (λk hk=>by simp [hk]) (λb hb=>?_),(OY.QN TQ.out).trans ⟨?_,λb hb=>?_,λb hb=>by simp [hb]⟩⟩
  ·simp only [aA,eF] at hb;rcases hb with hb | hb
   ·have:=K5.out b hb;omega
   ·exact VT b hb
  ·have o9:Only [fb] w8 (w8.setCell ⟨fb,0,none⟩ (.slice a8 (m.length+l.length) c8)):=(Only.refl _ _).setCell bL _;exact (U8.mono (λk hk=>HOV.out k En)).trans (o9.mono (by simpa using hfD))
  ·simp only [aA,eF] at hb;rcases hb with hb | hb
   ·exact .inl hb
   ·rcases fr8 b hb with h8 | h8
    ·exact .inl (HOV.out b h8)
    ·exact .inr h8
end
section
variable {w:World} {D:List Nat} {d:Nat} {s:Dk}
theorem zT (h:O6 w D d s) (ho:s.off=false) (t:ByteArray) (ht:oI t) (hno:s.file=none\/t≠gf) :
  Calls Tryz.prog 85 #[.pointer (some ⟨d,0,none⟩),.string t] w λe w'=>e = .returned (.tuple #[.pointer none,.int .i64 4])/\Below w.heap.size w w':=by
 obtain ⟨⟨mb,k1,k2,k3⟩,k4,k5⟩:=h;refine BV ⟨⟨mb,k1,k2,k3⟩,k4,k5⟩ ho t ht (mb:=mb) G7 λw' hb=>?_;cases hf:s.file with
 | none =>
  rw [hf] at k3;obtain ⟨c,hm⟩:=k3;exact zE (bA hb (bg hm) hm) t ht.1.2
 | some p =>
  obtain ⟨l,k⟩:=p;rw [hf] at k3;obtain ⟨c,fb,b0,v,hm,_⟩:=k3;refine yl (bA hb (bg hm) hm) oh ht.1.2 (λe=>?_);rcases hno with h1 | h1
  ·rw [hf] at h1;cases h1
  ·exact h1 e.symm
structure Qu (w:World) (D:List Nat) (d:Nat) (s:Dk) (l:List UInt8) (k mb cc fb b0:Nat) (v:Value):Prop where
 hd:w.heap[d]? = some (.cells #[.int .i64 s.room,.bool s.off,.int .i64 s.lives,.map (some mb)] 69 (0,0))
 hm:w.heap[mb]? = some (.map #[⟨.string gf,.pointer (some ⟨fb,0,none⟩),b0⟩] cc)
 hb:b0<cc
 hf:w.heap[fb]? = some (.cells #[v,.int .i64 (k:Int)] 121 (0,0))
 ho:OW w 0 5 v l
 dD:d∈D
 mD:mb∈D
 fD:fb∈D
 vD:∀j,v.ownBlock=some j->j∈D
 lt:∀b∈D,b<w.heap.size
theorem O6.parts (h:O6 w D d s) {l:List UInt8} {k:Nat} (hf:s.file=some (l,k)):∃mb cc fb b0 v,Qu w D d s l k mb cc fb b0 v:=by
 obtain ⟨⟨mb,k1,k2,k3⟩,k4,k5⟩:=h;rw [hf] at k3;obtain ⟨c,fb,b0,v,h1,h2,h3,h4,h5,h6⟩:=k3;exact ⟨mb,c,fb,b0,v,k1,h1,h2,h4,h5,k4,k2,h3,h6,k5⟩
theorem Qu.dk {l:List UInt8} {k mb cc fb b0:Nat} {v:Value} (h:Qu w D d s l k mb cc fb b0 v) (hf:s.file=some (l,k)):O6 w D d s :=
 ⟨⟨mb,h.hd,h.mD,by rw [hf];exact ⟨cc,fb,b0,v,h.hm,h.hb,h.fD,h.hf,h.ho,h.vD⟩⟩,h.dD,h.lt⟩
theorem Qu.below {w':World} {l:List UInt8} {k mb cc fb b0:Nat} {v:Value} (h:Qu w D d s l k mb cc fb b0 v) (hb:Below w.heap.size w w'):Qu w' D d s l k mb cc fb b0 v :=
 ⟨bA hb (bg h.hd) h.hd,bA hb (bg h.hm) h.hm,h.hb,bA hb (bg h.hf) h.hf,bR h.ho (Only.OL hb []) (λb _=>by simp),h.dD,h.mD,h.fD,h.vD,λb hb2=>aK (h.lt b hb2) hb.size⟩
theorem Qu.set {l l':List UInt8} {k k' mb cc fb b0:Nat} {v v':Value} {w':World} {D':List Nat} {s':Dk} (h:Qu w D d s l k mb cc fb b0 v) (ho:Only [fb] w w') (hf:w'.heap[fb]? = some (.cells #[v',.int .i64 (k':Int)] 121 (0,0)))
  (hv:OW w 0 5 v' l') (O1:∀b∈D,b∈D') (hvD:∀j,v'.ownBlock=some j->j∈D') (hlt:∀b∈D',b<w.heap.size) (hs':s'.room=s.room/\s'.off=s.off/\s'.lives=s.lives):Qu w' D' d s' l' k' mb cc fb b0 v':=by
 have n1:d≠fb:=ia h.hd h.hf bL;have n2:mb≠fb:=ia h.hm h.hf bL;have n3:fb∉v'.ownBlock.toList:=kA hv h.hf bL;obtain ⟨e1,e2,e3⟩:=hs';refine ⟨by rw [e1,e2,e3];exact ho.keeps h.hd (by simpa using n1),ho.keeps h.hm (by simpa using n2),h.hb,hf,sL hv ho (λj hj hm=>?_),O1 _ h.dD,O1 _ h.mD,O1 _ h.fD,hvD,λb hb=>aK (hlt b hb) ho.size⟩;rw [aj.1 hm] at hj;exact n3 (by rw [hj];simp)
theorem rx {l:List UInt8} {k mb cc fb b0:Nat} {v:Value} (h:Qu w D d s l k mb cc fb b0 v) (hf:s.file=some (l,k)) (ho:s.off=false) :
  Calls Tryz.prog 85 #[.pointer (some ⟨d,0,none⟩),.string gf] w λe w'=>e = .returned (.tuple #[.pointer (some ⟨fb,0,none⟩),.int .i64 0])/\Below w.heap.size w w' :=
 BU (h.dk hf) ho gf lm (mb:=mb) (by rw [ap h.hd];rfl) λw' hb=>vT (bA hb (bg h.hm) h.hm) oh
theorem zo (h:O6 w D d s) (ho:s.off=false) (t:ByteArray) (ht:oI t) (hno:s.file=none\/t≠gf):Calls Tryz.prog 81 #[.pointer (some ⟨d,0,none⟩),.string t] w λe w'=>e = .returned (.tuple #[.slice none 0 0,.int .i64 4])/\Below w.heap.size w w':=by
 have HF:=af (zT h ho t ht hno);clear h;go_enter Tryz.func81,Tryz.ntmps81
 go_wp2_with fail
 refine HF.out.mono ?_;exact KA
theorem Dt (h:O6 w D d s) (ho:s.off=false) {l:List UInt8} {k:Nat} (hf:s.file=some (l,k)) (hl:l.length<=1048576) :
  Calls Tryz.prog 81 #[.pointer (some ⟨d,0,none⟩),.string gf] w λe w'=>∃v,e = .returned (.tuple #[v,.int .i64 0])/\OW w' w.heap.size 5 v l/\Below w.heap.size w w':=by
 obtain ⟨mb,cc,fb,b0,v,hp⟩:=h.parts hf;have HF:=af (rx hp hf ho);have HP:=af hp;clear h hp;go_enter Tryz.func81,Tryz.ntmps81
 go_wp2_with fail
 refine HF.out.mono ?_;rintro e w1 ⟨rfl,hb⟩;have HB:=af hb;have VB:=af (HP.out.below hb);obtain ⟨ao,c,rfl,hi⟩:=VB.out.ho.S9;have hc:w1.cell? ⟨fb,0,none⟩=some (.slice ao l.length c):=Hc;have HI:=af hi;clear hb hi;go_wp2_with fail
 refine (F.dV ao l.length c l w1 HI.out az).mono ?_;rintro e w2 ⟨v2,rfl,OZ,hb2⟩;have QL:=af (OZ.mono HB.out.size);have O5:=af (HB.out.trans (hb2.mono HB.out.size));clear OZ hb2;go_wp2_with fail
 go_ret2
 exact ⟨v2,rfl,QL.out,O5.out⟩
theorem Gk (h:O6 w D d s) (ho:s.off=false) (hno:s.file=none):Calls Tryz.prog 115 #[.pointer (some ⟨d,0,none⟩),.string gf] w λe w'=>e = .returned (.int .i64 4)/\Below w.heap.size w w':=by
 have HF:=af (zT h ho gf lm (.inl hno));clear h;go_enter Tryz.func115,Tryz.ntmps115
 go_wp2_with fail
 refine HF.out.mono ?_;rintro e w1 ⟨rfl,hb⟩;have HB:=af hb;clear hb;exact DW
theorem C9 (h:O6 w D d s) (ho:s.off=false) {l:List UInt8} {k:Nat} (hf:s.file=some (l,k)) :
  Calls Tryz.prog 115 #[.pointer (some ⟨d,0,none⟩),.string gf] w λe w'=>e = .returned (.int .i64 0)/\O6 w' D d { s with file:=some (l,l.length)}/\Only D w w':=by
 obtain ⟨mb,cc,fb,b0,v,hp⟩:=h.parts hf;have HF:=af (rx hp hf ho);have HP:=af hp;clear h hp;go_enter Tryz.func115,Tryz.ntmps115
 go_wp2_with fail
 refine HF.out.mono ?_;rintro e w1 ⟨rfl,hb⟩;have HB:=af hb;have VB:=af (HP.out.below hb);obtain ⟨ao,c,rfl,hi⟩:=VB.out.ho.S9;have hc:w1.cell? ⟨fb,0,none⟩=some (.slice ao l.length c):=Hc;have hc1:w1.cell? ⟨fb,1,none⟩=some (.int .i64 (k:Int)):=Hc;have hz1:=aU VB.out.hf 1;clear hb hi;go_wp2_with fail
 go_ret
 have o9:Only [fb] w1 (w1.setCell ⟨fb,1,none⟩ (.int .i64 (l.length:Int))):=(Only.refl _ _).setCell bL _;have hp9:=VB.out.set (s':={ s with file:=some (l,l.length)}) o9 (be VB.out.hf 1 _) VB.out.ho (λb hb=>hb) VB.out.vD VB.out.lt ⟨rfl,rfl,rfl⟩;exact ⟨rfl,hp9.dk rfl,(Only.OL HB.out D).trans (o9.mono (by simpa using VB.out.fD))⟩
theorem Sa.Yv {w':World} {mb:Nat} {f:Option (List UInt8×Nat)} {cs:Array Value} (h:Sa w D mb f) (ho:Only [d] w w') (hd:w.heap[d]? = some (.cells cs 69 (0,0))):Sa w' D mb f:=by
 cases f with
 | none =>
  obtain ⟨c,h1⟩:=h;exact ⟨c,ho.keeps h1 (by simpa using ia h1 hd bL)⟩
 | some p =>
  obtain ⟨l,safe⟩:=p;obtain ⟨c,fb,b0,v,h1,h2,h3,h4,h5,h6⟩:=h;refine ⟨c,fb,b0,v,ho.keeps h1 (by simpa using ia h1 hd bL),h2,h3,ho.keeps h4 (by simpa using ia h4 hd bL),bR h5 ho (λb hb hm=>?_),h6⟩;exact kA h5 hd bL KX
theorem Kl (h:O6 w D d s) (hl:s.lives<=1000000000) (hl0:0<=s.lives):Calls Tryz.prog 45 #[.pointer (some ⟨d,0,none⟩)] w λe w'=>e = .returned (.tuple #[])/\O6 w' D d { s with off:=false,lives:=s.lives+1 }/\Only D w w':=by
 obtain ⟨⟨mb,k1,k2,k3⟩,k4,k5⟩:=h;have hc1:w.cell? ⟨d,1,none⟩=some (.bool s.off):=G7;have hc2:w.cell? ⟨d,2,none⟩=some (.int .i64 s.lives):=G7;have hz1:=aU k1 1;have hz2:=aU k1 2;have K:=af (And.intro k1 (And.intro k2 (And.intro k3 (And.intro k4 k5))));have q1:IntKind.i64.wrap (s.lives+1)=s.lives+1:=IntWalk.i64_in _ az;clear k1 k2 k3 k4 k5;go_enter Tryz.func45,Tryz.ntmps45
 go_wp2_with fail
 go_end0
 obtain ⟨k1,k2,k3,k4,k5⟩:=K.out;have o9:Only [d] w ((w.setCell ⟨d,2,none⟩ (.int .i64 (s.lives+1))).setCell ⟨d,1,none⟩ (.bool false)):=((Only.refl _ _).setCell bL _).setCell bL _;have hh:=be (be k1 2 (.int .i64 (s.lives+1))) 1 (.bool false);refine ⟨rfl,⟨⟨mb,hh,k2,?_⟩,k4,λb hb=>aK (k5 b hb) o9.size⟩,o9.mono (by simpa using k4)⟩;exact k3.Yv o9 k1
end
theorem xw {p:Prop} (h:p:=by
 go_simp
 refine hK.out _ _ aD (λaD=>?_);clear hK K;refine bX ?_;refine dh 17 λK hK=>?_;go_simp
 refine hK.out _ _ aD (λaD=>?_);clear hK K;refine bX ?_;refine dh 18 λK hK=>?_;go_simp
 refine hK.out _ _ aD (λaD=>?_);clear hK K;refine bX ?_;refine dh 19 λK hK=>?_;go_simp
 refine hK.out _ _ aD (λaD=>?_);clear hK K;refine bX ?_;refine dh 20 λK hK=>?_;go_simp
 refine hK.out _ _ trivial (λaD=>?_);clear hK K;refine bX ?_;refine iX ?_;go_wp2_with fail
 go_meet
 refine ⟨_,rfl,?_⟩;rw [<-Tm.out];exact IntWalk.i64_in _ az):p:=h
theorem tB {p:Prop} (h:p:=by
 refine hK.out _ _ aD (λaD=>?_);clear hK K;refine bX ?_;refine dh 15 λK hK=>?_;go_simp
 refine hK.out _ _ aD (λaD=>?_);clear hK K;refine bX ?_;refine dh 16 λK hK=>?_;exact xw):p:=h
theorem CO {p:Prop} (h:p:=by
 refine hK.out _ _ aD (λaD=>?_);clear hK K;refine bX ?_;refine mf 3 15 (λK hK=>?_) λK hK=>?_
 ·go_simp
  exact tB
 ·go_simp
  refine hK.out _ _ aD (λaD=>?_);clear hK K;refine bX ?_;refine mf 3 16 (λK hK=>?_) λK hK=>?_
  ·go_simp
   refine hK.out _ _ aD (λaD=>?_);clear hK K;refine bX ?_;refine dh 16 λK hK=>?_;exact xw
  ·go_simp
   refine hK.out _ _ aD (λaD=>?_);clear hK K;refine bX ?_;refine dh 3 λK hK=>?_;exact xw):p:=h
theorem tA {p:Prop} (h:p:=by
 refine hK.out _ _ aD (λaD=>?_);clear hK K;refine bX ?_;refine dh 10 λK hK=>?_;go_simp
 exact tB):p:=h
theorem CN {p:Prop} (h:p:=by
 refine hK.out _ _ aD (λaD=>?_);clear hK K;refine bX ?_;refine mf 10 14 (λK hK=>?_) λK hK=>?_
 ·go_simp
  refine hK.out _ _ aD (λaD=>?_);clear hK K;refine bX ?_;refine dh 14 λK hK=>?_;go_simp
  exact tB
 ·go_simp
  exact tA):p:=h
theorem CM {p:Prop} (h:p:=by
 refine hK.out _ _ aD (λaD=>?_);clear hK K;refine bX ?_;refine mf 3 10 (λK hK=>?_) λK hK=>?_
 ·go_simp
  exact tA
 ·go_simp
  exact CO):p:=h
def stays (l:List UInt8) (k:Nat) (keep:Int):Nat:=k+(min (max keep 0) (l.length - k:Int)).toNat
def rE (f:Option (List UInt8×Nat)) (keep:Int):Option (List UInt8×Nat):=match f with | none=>none | some (l,k)=>some (l.take (stays l k keep),stays l k keep)
def dI (s:Dk) (keep:Int):Dk:={ s with off:=true,file:=rE s.file keep }
theorem vb {l:List UInt8} {k:Nat} (keep:Int) (h:k<=l.length):stays l k keep<=l.length:=by unfold stays;omega
section
variable {w:World} {D:List Nat} {d:Nat} {s:Dk}
theorem sV {ao:Option Addr} {n c k:Nat} {l:List UInt8} (h:Pg w ao n c l) (hk:k<=n):Pg w ao k c (l.take k):=by
 obtain ⟨h1,h2,h3⟩:=h;refine ⟨by rw [aQ,h1];omega,λe=>⟨by have:=(h2 e).1;omega,(h2 e).2⟩,?_⟩;rcases h3 with h3 | ⟨b,off,h4,h5⟩
 ·exact .inl az
 ·refine .inr ⟨b,off,h4,λi hi=>?_⟩;rw [h5 i az];simp [List.getD,hi]
theorem zr {ao:Option Addr} {n c:Nat} {l:List UInt8} (h:OW w 0 5 (.slice ao n c) l):n<=c:=by
 rcases h.2 with ⟨h0,h1⟩ | ⟨g,cap,cur,hv,_,_,hn,_⟩
 ·cases h0;exact ah _
 ·cases hv;have h1:=h.1;simp at h1;omega
theorem B3 (h:O6 w D d s) (keep:Int) (WT : -9223372036854775808<=keep) (Ya:keep<=9223372036854775807) (hl:∀l k,s.file=some (l,k)->k<=l.length/\l.length<=1048576) :
  Calls Tryz.prog 44 #[.pointer (some ⟨d,0,none⟩),.int .i64 keep] w λe w'=>∃D',e = .returned (.tuple #[])/\O6 w' D' d (dI s keep)/\OY D D' w w':=by
 have H0:=af h;obtain ⟨⟨mb,k1,k2,k3⟩,k4,k5⟩:=h;have hc1:w.cell? ⟨d,1,none⟩=some (.bool s.off):=G7;have hz1:=aU k1 1;have o1:Only [d] w (w.setCell ⟨d,1,none⟩ (.bool true)):=(Only.refl _ _).setCell bL _;have Vx:=be k1 1 (.bool true);have hc3:(w.setCell ⟨d,1,none⟩ (.bool true)).cell? ⟨d,3,none⟩=some (.map (some mb)):=by rw [ap Vx];rfl
 have k31:=k3.Yv o1 k1;have Sm:=af (o1.mono (T:=D) (by simpa using k4));have HD1:=af Vx;have HK5:Hid (∀b∈D,b<(w.setCell ⟨d,1,none⟩ (.bool true)).heap.size):=af (λb hb=>aK (k5 b hb) o1.size);cases Qc:s.file with
 | none =>
  rw [Qc] at k31;obtain ⟨c,hm⟩:=k31;have HM:=af hm;have hr:=run_range_map (P:=Tryz.prog) (w.setCell ⟨d,1,none⟩ (.bool true)) 67 9 119 mb #[] c Tryz.underlying67 hm;have hn:∀ty,(Instr.next (.pointer (some ⟨(w.setCell ⟨d,1,none⟩ (.bool true)).heap.size,0,none⟩)) false ty).run Tryz.prog ((w.setCell ⟨d,1,none⟩ (.bool true)).alloc (.mapIter (some mb) c #[] c)) = .ok (.tuple #[.bool false]) ((w.setCell ⟨d,1,none⟩ (.bool true)).alloc (.mapIter (some mb) c #[] c)):=λty=>zB (aV _ _) (bD hm _);have YF:(w.setCell ⟨d,1,none⟩ (.bool true)).heap.size=w.heap.size:=bL;rw [YF] at hn hr;clear YF;have hap:dI s keep=⟨s.room,true,s.lives,none⟩:=by unfold dI rE;rw [Qc]
  have HAP:=af hap;have P7:Hid (O6 ((w.setCell ⟨d,1,none⟩ (.bool true)).alloc (.mapIter (some mb) c #[] c)) D d ⟨s.room,true,s.lives,none⟩):=af ((⟨⟨mb,Vx,k2,⟨c,hm⟩⟩,k4,HK5.out⟩:O6 (w.setCell ⟨d,1,none⟩ (.bool true)) D d ⟨s.room,true,s.lives,none⟩).below ((aG _ _).alloc (ah _) _));have TU:Hid (Only D w ((w.setCell ⟨d,1,none⟩ (.bool true)).alloc (.mapIter (some mb) c #[] c))):=af (Sm.out.alloc _);clear k1 k2 k3 k4 k5 o1 Vx hm hap Qc;go_enter Tryz.func44,Tryz.ntmps44
  go_wp2_with fail
  generalize ((w.setCell ⟨d,1,none⟩ (.bool true)).alloc (.mapIter (some mb) c #[] c))=w1 at *;go_loopw [5] (λ_ wr=>wr=w1) (λ_ _=>0)
  case atStart=>rfl
  case round =>
   obtain rfl:=hrel;go_wp2_with fail
   go_end0
   exact ⟨D,rfl,by rw [HAP.out];exact P7.out,OY.Qg TU.out⟩
 | some p =>
  obtain ⟨l,XV⟩:=p;obtain ⟨hkl,Vg⟩:=hl l XV Qc;rw [Qc] at k31;obtain ⟨cc,fb,b0,v,hm,hb0,hfD,hf,ho,hov⟩:=k31;obtain ⟨w1,w2,hI⟩:=JT hm hb0;obtain ⟨ao,c,rfl,hi⟩:=ho.S9;have hr:=hI.range;have hn:=hI.next;have he:=hI.entry;have UR:=af hI.done;have HLI:=af (And.intro hI.l1 hI.l2);have HP2:Hid (Qu w2 D d { s with off:=true } l XV mb cc fb b0 (.slice ao l.length c)):=af ((⟨Vx,hm,hb0,hf,ho,k4,k2,hfD,hov,HK5.out⟩:Qu (w.setCell ⟨d,1,none⟩ (.bool true)) D d { s with off:=true } l XV mb cc fb b0 (.slice ao l.length c)).below hI.b2);have HR2:=af hI.b2;have HSZ2:=af hI.sz;have hkk:(stays l XV keep:Int)=(XV:Int)+min (max keep 0) ((l.length:Int) - (XV:Int)):=by unfold stays;omega
  have hap:dI s keep=⟨s.room,true,s.lives,some (l.take (stays l XV keep),stays l XV keep)⟩:=by unfold dI rE;rw [Qc]
  have HAP:=af hap;have hkl2:=vb keep hkl;generalize hkq:stays l XV keep=kk at *;have Tm:=af hkk;clear k1 k2 k3 k4 k5 o1 Vx hm hap Qc hf ho hov hI hkq hl hkk;simp only at hn he;have YF:(w.setCell ⟨d,1,none⟩ (.bool true)).heap.size=w.heap.size:=bL;rw [YF] at hn hr he UR HLI HSZ2;clear YF;generalize hX:w.heap.size=X at *;have HX:=af hX;clear hX;go_enter Tryz.func44,Tryz.ntmps44
  go_wp2_with fail
  go_loopw [5] (λ_ wr=>wr=w1\/∃D' v',wr.heap[X]? = w2.heap[X]? /\ wr.heap[mb]? = w2.heap[mb]? /\ Qu wr D' d { s with off:=true } (l.take kk) kk mb cc fb b0 v'/\OY D D' w2 wr) (λ_ wr=>ol wr X)
  case atStart=>exact .inl rfl
  case round =>
   rcases hrel with rfl | ⟨D',v',r1,r2,r3,r4⟩
   ·have SL:=HP2.out.hf;have hc20:w2.cell? ⟨fb,0,none⟩=some (.slice ao l.length c):=by rw [ap SL];rfl
    have hc21:w2.cell? ⟨fb,1,none⟩=some (.int .i64 (XV:Int)):=by rw [ap SL];rfl
    have hz21:=aU SL 1;have q1:IntKind.i64.wrap ((l.length:Int) - (XV:Int))=(l.length:Int) - (XV:Int):=IntWalk.i64_in _ az;clear SL;go_upto_region 4 with (fail)
    go_cut [] (λwx=>∃y:Int,wx=w2.drew.setCell ⟨fb,1,none⟩ (.int .i64 y)/\y=(kk:Int))
    case first =>
     refine wp_region_held_drew (S:=λw'=>True) dW trivial (λaD=>?_);refine aJ 0 ?_;refine aJ 1 ?_;refine aJ 2 ?_;refine aJ 4 ?_;refine aJ 5 ?_;refine aJ 6 ?_;refine aJ 7 ?_;refine aJ 8 ?_;refine aJ 11 ?_;refine aJ 12 ?_;refine aJ 13 ?_;refine LF 3 9 14 (λK hK=>?_) (λK hK=>?_) λK hK=>?_
     ·go_simp
      refine hK.out _ _ aD (λaD=>?_);clear hK K;refine bX ?_;refine mf 9 14 (λK hK=>?_) λK hK=>?_
      ·go_simp
       exact CN
      ·go_simp
       refine hK.out _ _ aD (λaD=>?_);clear hK K;refine bX ?_;refine dh 9 λK hK=>?_;go_simp
       exact tA
     ·go_simp
      refine hK.out _ _ aD (λaD=>?_);clear hK K;refine bX ?_;refine LF 3 10 14 (λK hK=>?_) (λK hK=>?_) λK hK=>?_
      ·go_simp
       exact CN
      ·go_simp
       refine hK.out _ _ aD (λaD=>?_);clear hK K;refine bX ?_;refine mf 3 14 (λK hK=>?_) λK hK=>?_
       ·go_simp
        refine hK.out _ _ aD (λaD=>?_);clear hK K;refine bX ?_;refine dh 14 λK hK=>?_;go_simp
        exact tB
       ·go_simp
        exact CO
      ·go_simp
       exact CM
     ·go_simp
      refine hK.out _ _ aD (λaD=>?_);clear hK K;refine bX ?_;refine mf 3 9 (λK hK=>?_) λK hK=>?_
      ·go_simp
       refine hK.out _ _ aD (λaD=>?_);clear hK K;refine bX ?_;refine dh 9 λK hK=>?_;go_simp
       exact tA
      ·go_simp
       exact CM
    case rest =>
     obtain ⟨y,rfl,rfl⟩:=hcut;have o4:Only [fb] w2 (w2.drew.setCell ⟨fb,1,none⟩ (.int .i64 (kk:Int))):=(Only.refl [fb] w2).drew.setCell bL _;have hf4:(w2.drew.setCell ⟨fb,1,none⟩ (.int .i64 (kk:Int))).heap[fb]? = some (.cells #[.slice ao l.length c,.int .i64 (kk:Int)] 121 (0,0)):=be (w:=w2.drew) HP2.out.hf 1 _;have hpW:=HP2.out.set (s':={ s with off:=true }) o4 hf4 HP2.out.ho (λb hb=>hb) HP2.out.vD HP2.out.lt ⟨rfl,rfl,rfl⟩;have HFX:Hid (fb<X):=af (by have:=HK5.out fb HP2.out.fD;have:=HX.out;simp at *;omega);have hiW:Pg (w2.drew.setCell ⟨fb,1,none⟩ (.int .i64 (kk:Int))) ao l.length c l:=by
       obtain ⟨a9,c9,e9,hi9⟩:=hpW.ho.S9;cases e9;exact hi9
     clear hc20 hc21 hz21;go_upto_region 5 with (fail)
     generalize (w2.drew.setCell ⟨fb,1,none⟩ (.int .i64 (kk:Int)))=W at *;have VY:W.drew.cell? ⟨fb,1,none⟩=some (.int .i64 (kk:Int)):=by rw [ap (show W.drew.heap[fb]? = _ from hf4)];rfl
     have Yq:Hid (W.drew.heap[fb]? = some (.cells #[.slice ao l.length c,.int .i64 (kk:Int)] 121 (0,0))):=af hf4;have HIV:Hid (Pg W.drew ao kk c (l.take kk)):=af ((sV hiW hkl2).below (bK W));have HPV:Hid (Qu W.drew D d { s with off:=true } l kk mb cc fb b0 (.slice ao l.length c)):=af (hpW.below (bK W));have HOV:Hid (Only [fb] w2 W.drew):=af o4.drew;have hkc:kk<=c:=aF hkl2 (zr hpW.ho);clear o4 hf4 hpW hiW;refine wp_region_held_drew (S:=λw'=>w'.cell? ⟨fb,1,none⟩=some (.int .i64 (kk:Int))) dW VY (λaD=>?_);refine aJ 0 ?_;refine aJ 1 ?_;refine aJ 2 ?_;refine aJ 3 ?_;refine aJ 5 ?_;refine aJ 6 ?_;refine aJ 7 ?_;refine aJ 8 ?_;generalize W.drew=V at *;refine dh 4 λK hK=>?_;have Xt:V.cell? ⟨fb,0,none⟩=some (.slice ao l.length c):=by rw [ap Yq.out];rfl
     go_simp
     clear Xt;refine hK.out _ _ aD (λaD=>?_);clear hK K;refine bX ?_;refine dh 9 λK hK=>?_;go_simp
     refine hK.out _ _ aD (λaD=>?_);clear hK K;refine bX ?_;refine dh 10 λK hK=>?_;go_simp
     refine (F.dV ao kk c (l.take kk) _ HIV.out az).mono ?_;rintro e w5 ⟨v5,rfl,PS,PA⟩;have Q6:=af PA;have RJ:=af PS;have hh5:=cell_later PA aD;clear PS PA;go_wp2_with fail
     refine hK.out _ _ hh5 (λaD=>?_);clear hK K;refine bX ?_;clear hh5;refine dh 11 λK hK=>?_;go_simp
     refine hK.out _ _ aD (λaD=>?_);clear hK K;refine bX ?_;refine dh 12 λK hK=>?_;go_simp
     refine hK.out _ _ aD (λaD=>?_);clear hK K;refine bX ?_;refine dh 13 λK hK=>?_;have hf5:=bA Q6.out (bg Yq.out) Yq.out;have Xt:w5.cell? ⟨fb,0,none⟩=some (.slice ao l.length c):=by rw [ap hf5];rfl
     have hz0:=aU hf5 0;have Z4:=af hf5;obtain ⟨a5,c5,rfl,_⟩:=RJ.out.S9;have hlk:(l.take kk).length=kk:=yd;rw [hlk] at RJ;clear hf5 hlk;go_simp
     clear Xt hz0;refine hK.out _ _ ((ap (be Z4.out 0 _) 1).trans rfl) (λaD=>?_);clear hK K;refine bX ?_;refine iX ?_;go_wp2_with fail
     go_roundw
     case rel =>
       have o9:Only [fb] w5 (w5.setCell ⟨fb,0,none⟩ (.slice a5 kk c5)):=(Only.refl _ _).setCell bL _;have hp5:=HPV.out.below Q6.out;have XX:=RJ.out.mono (aH _);have hlt5:=qf XX;have hp9:=hp5.set (D':=D++(Value.slice a5 kk c5).ownBlock.toList) (s':={ s with off:=true }) o9 (be Z4.out 0 _) XX (λb hb=>by simp [hb]) (λj hj=>by simp [hj]) (λb hb=>by
         simp only [aA,eF] at hb;rcases hb with hb | hb
         ·exact hp5.lt b hb
         ·exact hlt5 b hb) ⟨rfl,rfl,rfl⟩
       have TX:Only [fb] w2 (w5.setCell ⟨fb,0,none⟩ (.slice a5 kk c5)):=(HOV.out.trans (Only.OL Q6.out [fb])).trans o9;have n2:mb≠fb:=ia HPV.out.hm HPV.out.hf bL;have n1:X≠fb:=by have:=HFX.out;omega
       have VZ:X<w2.heap.size:=by rw [HSZ2.out];omega
       have hszV:w2.heap.size<=V.heap.size:=HOV.out.size;refine .inr ⟨_,_,TX.block X VZ (by simpa using n1),TX.block mb (bg HP2.out.hm) (by simpa using n2),hp9,TX.mono (by simpa using HPV.out.fD),λb hb=>?_,λb hb=>by simp [hb]⟩;simp only [aA,eF] at hb;rcases hb with hb | hb
       · exact .inl hb
       · exact .inr (aF hszV (RJ.out.lt b hb).1)
     case measure =>
       have o9:Only [fb] w5 (w5.setCell ⟨fb,0,none⟩ (.slice a5 kk c5)):=(Only.refl _ _).setCell bL _;have TX:Only [fb] w2 (w5.setCell ⟨fb,0,none⟩ (.slice a5 kk c5)):=(HOV.out.trans (Only.OL Q6.out [fb])).trans o9;have n1:X≠fb:=by have:=HFX.out;omega
       have VZ:X<w2.heap.size:=by rw [HSZ2.out];omega
       rw [vU (TX.block X VZ (by simpa using n1)),HLI.out.1,HLI.out.2];omega
   ·have hd:=UR.out;have PJ:=λty=>hd ty wr r1 r2;have R3:=af r3;have R4:=af r4;clear hd hn he r1 r2 r3 r4;go_wp2_with fail
    go_end0
    exact ⟨D',rfl,by rw [HAP.out];exact (⟨R3.out.hd,R3.out.hm,R3.out.hb,R3.out.hf,R3.out.ho,R3.out.dD,R3.out.mD,R3.out.fD,R3.out.vD,R3.out.lt⟩:Qu wr D' d ⟨s.room,true,s.lives,some (l.take kk,kk)⟩ (l.take kk) kk mb cc fb b0 v').dk rfl,((OY.Qg Sm.out).trans (OY.Qg (Only.OL HR2.out D))).trans R4.out⟩
end
theorem Ko (w:World):Calls Tryz.prog 17 #[.int .i64 1048576] w λe w'=>∃d D,e = .returned (.tuple #[.pointer (some ⟨d,0,none⟩),.int .i64 0])/\O6 w' D d ⟨1048576,false,1,none⟩/\Below w.heap.size w w'/\∀b∈D,w.heap.size<=b:=by
 have hb1:Below w.heap.size w (w.alloc (.map #[] 0)):=(aG _ _).alloc (ah _) _;have hb2:Below w.heap.size w ((w.alloc (.map #[] 0)).alloc (.cells #[.int .i64 1048576,.bool false,.int .i64 1,.map (some w.heap.size)] 69)):=hb1.alloc bL _;have hm:=bD (aV w (.map #[] 0)) (.cells #[.int .i64 1048576,.bool false,.int .i64 1,.map (some w.heap.size)] 69);have hd:=aV (w.alloc (.map #[] 0)) (.cells #[.int .i64 1048576,.bool false,.int .i64 1,.map (some w.heap.size)] 69);rw [show (w.alloc (.map #[] 0)).heap.size=w.heap.size+1 by simp] at hd;have hsz:((w.alloc (.map #[] 0)).alloc (.cells #[.int .i64 1048576,.bool false,.int .i64 1,.map (some w.heap.size)] 69)).heap.size=w.heap.size+2:=bL;have HB:=af hb2;have HM:=af hm;have HD:=af hd;have HS:=af hsz;clear hb1 hb2 hm hd hsz;have hmk:∀w:World,(Instr.makeMap 67 none).run Tryz.prog w = .ok (.map (some w.heap.size)) (w.alloc (.map #[] 0)):=λw=>by simp [Instr.makeMap,run_underlying Tryz.underlying67,Result.andThen]
 go_enter Tryz.func17,Tryz.ntmps17
 go_wp2_with fail
 go_ret2
 have hsz:=HS.out;refine ⟨w.heap.size+1,[w.heap.size+1,w.heap.size],by simp,⟨⟨w.heap.size,HD.out,by simp,0,HM.out⟩,by simp,λb hb=>?_⟩,HB.out,λb hb=>?_⟩
 ·simp at hb;rcases hb with rfl | rfl<;>omega
 ·simp at hb;rcases hb with rfl | rfl<;>omega
theorem CL {p:Prop} (h:p:=by
 refine aJ 15 ?_;refine aJ 16 ?_;refine dh 17 λK hK=>?_;have Xt:w5.cell? ⟨fb,0,none⟩=some (.slice ao l.length c):=by rw [ap Z4.out];rfl
 have hz0:=aU Z4.out 0;obtain ⟨a5,c5,rfl,_⟩:=RJ.out.S9;have hlk:(l.take n).length=n:=yd;rw [hlk] at RJ HO5V;go_simp
 clear Xt hz0 hlk;have HF6:=af (be Z4.out 0 (.slice a5 n c5));refine hK.out _ _ trivial (λaD=>?_);clear hK K;refine bX ?_;refine aJ 18 ?_;refine aJ 19 ?_;refine dh 20 λK hK=>?_;have TE:(w5.setCell ⟨fb,0,none⟩ (.slice a5 n c5)).cell? ⟨fb,1,none⟩=some (.int .i64 (k:Int)):=by rw [ap HF6.out];rfl
 have hz1:=aU HF6.out 1;go_simp
 clear TE hz1;refine hK.out _ _ trivial (λaD=>?_);clear hK K;refine bX ?_;refine iX ?_;go_wp2_with fail
 go_meet
 exact ⟨w5,a5,c5,rfl,RJ.out,Q6.out,HO5V.out⟩):p:=h
theorem CK {p:Prop} (h:p:=by
 refine dh 8 λK hK=>?_;go_simp
 refine (F.dV ao n c (l.take n) _ HIV.out az).mono ?_;rintro e w5 ⟨v5,rfl,PS,PA⟩;have Q6:=af PA;have RJ:=af (PS.mono (aH _));have HO5V:=af PS;have Z4:=af (bA PA (bg Yq.out) Yq.out);clear PS PA;go_wp2_with fail
 refine hK.out _ _ trivial (λaD=>?_);clear hK K;refine bX ?_;exact CL):p:=h
section
variable {w:World} {D:List Nat} {d:Nat} {s:Dk}
theorem Il (h:O6 w D d s) (ho:s.off=false) {l:List UInt8} {k:Nat} (hf:s.file=some (l,k)) (n:Nat) (hn:n<=l.length) (hl:l.length<=1048576) (hk:k<=l.length) :
  Calls Tryz.prog 53 #[.pointer (some ⟨d,0,none⟩),.string gf,.int .i64 (n:Int)] w λe w'=>∃D',e = .returned (.int .i64 0)/\O6 w' D' d { s with file:=some (l.take n,min k n)}/\OY D D' w w':=by
 obtain ⟨mb,cc,fb,b0,v,hp⟩:=h.parts hf;have HF:=af (rx hp hf ho);have HP:=af hp;have PD:(n:Int)<=(l.length:Int):=az;have g1:decide (l.length<n)=false:=bp az;have g2:decide ((n:Int)<0)=false:=bp az;clear h hp;go_enter Tryz.func53,Tryz.ntmps53
 go_wp2_with fail
 refine HF.out.mono ?_;rintro e W ⟨rfl,hb⟩;have HB:=af hb;have VB:=af (HP.out.below hb);obtain ⟨ao,c,e1,hi⟩:=VB.out.ho.S9;subst e1;have hc:W.cell? ⟨fb,0,none⟩=some (.slice ao l.length c):=Hc;have hkc:n<=c:=aF hn (zr VB.out.ho);have HIV:Hid (Pg W.drew ao n c (l.take n)):=af ((sV hi hn).below (bK W));have Yq:Hid (W.drew.heap[fb]? = some (.cells #[.slice ao l.length c,.int .i64 (k:Int)] 121 (0,0))):=af VB.out.hf;have HPV:=af (VB.out.below (bK W));have QZ:Hid (Below w.heap.size w W.drew):=af (hb.trans ((bK W).mono hb.size));clear hb hi;go_upto_region 6 with (fail)
 clear hc;go_cut [] (λwx=>∃w5 a5 c5,wx=(w5.setCell ⟨fb,0,none⟩ (.slice a5 n c5)).setCell ⟨fb,1,none⟩ (.int .i64 (min (k:Int) (n:Int)))/\OW w5 0 5 (.slice a5 n c5) (l.take n)/\Below W.drew.heap.size W.drew w5/\OW w5 W.drew.heap.size 5 (.slice a5 n c5) (l.take n))
 case first =>
  refine wp_region_held_drew (S:=λ_=>True) dW trivial (λaD=>?_);refine aJ 0 ?_;refine aJ 1 ?_;refine aJ 2 ?_;refine aJ 3 ?_;refine aJ 4 ?_;refine aJ 6 ?_;refine aJ 9 ?_;refine aJ 10 ?_;refine aJ 11 ?_;refine aJ 13 ?_;generalize W.drew=V at *;refine mf 5 12 (λK hK=>?_) λK hK=>?_
  ·have Xt:V.cell? ⟨fb,0,none⟩=some (.slice ao l.length c):=by rw [ap Yq.out];rfl
   go_simp
   clear Xt;refine hK.out _ _ trivial (λaD=>?_);clear hK K;refine bX ?_;refine aJ 7 ?_;refine mf 8 12 (λK hK=>?_) λK hK=>?_
   ·go_simp
    refine (F.dV ao n c (l.take n) _ HIV.out az).mono ?_;rintro e w5 ⟨v5,rfl,PS,PA⟩;have Q6:=af PA;have RJ:=af (PS.mono (aH _));have HO5V:=af PS;have Z4:=af (bA PA (bg Yq.out) Yq.out);clear PS PA;go_wp2_with fail
    refine hK.out _ _ trivial (λaD=>?_);clear hK K;refine bX ?_;refine dh 12 λK hK=>?_;have TE:w5.cell? ⟨fb,1,none⟩=some (.int .i64 (k:Int)):=by rw [ap Z4.out];rfl
    go_simp
    clear TE;refine hK.out _ _ trivial (λaD=>?_);clear hK K;refine bX ?_;refine aJ 14 ?_;exact CL
   ·have TE:V.cell? ⟨fb,1,none⟩=some (.int .i64 (k:Int)):=by rw [ap Yq.out];rfl
    go_simp
    clear TE;refine hK.out _ _ trivial (λaD=>?_);clear hK K;refine bX ?_;refine aJ 14 ?_;exact CK
  ·have TE:V.cell? ⟨fb,1,none⟩=some (.int .i64 (k:Int)):=by rw [ap Yq.out];rfl
   go_simp
   clear TE;refine hK.out _ _ trivial (λaD=>?_);clear hK K;refine bX ?_;refine aJ 14 ?_;refine dh 5 λK hK=>?_;have Xt:V.cell? ⟨fb,0,none⟩=some (.slice ao l.length c):=by rw [ap Yq.out];rfl
   go_simp
   clear Xt;refine hK.out _ _ trivial (λaD=>?_);clear hK K;refine bX ?_;refine aJ 7 ?_;exact CK
 case rest =>
  obtain ⟨w5,a5,c5,rfl,PS,PA,ho5v⟩:=hcut;have hp5:=HPV.out.below PA;have o9:Only [fb] w5 ((w5.setCell ⟨fb,0,none⟩ (.slice a5 n c5)).setCell ⟨fb,1,none⟩ (.int .i64 (min (k:Int) (n:Int)))):=((Only.refl _ _).setCell bL _).setCell bL _;have hf9:=be (be hp5.hf 0 (.slice a5 n c5)) 1 (.int .i64 (min (k:Int) (n:Int)));have hlt5:=qf PS;have UF:((min k n:Nat):Int)=min (k:Int) (n:Int):=az;have hp9:=hp5.set (k':=min k n) (D':=D++(Value.slice a5 n c5).ownBlock.toList) (s':={ s with file:=some (l.take n,min k n)}) o9 (by rw [UF];exact hf9) PS (λb hb=>by simp [hb]) (λj hj=>by simp [hj]) (λb hb=>by
    simp only [aA,eF] at hb;rcases hb with hb | hb
    ·exact hp5.lt b hb
    ·exact hlt5 b hb) ⟨rfl,rfl,rfl⟩
  have HD9:=af (hp9.dk rfl);have TX:Only D w ((w5.setCell ⟨fb,0,none⟩ (.slice a5 n c5)).setCell ⟨fb,1,none⟩ (.int .i64 (min (k:Int) (n:Int)))):=(Only.OL (QZ.out.trans (PA.mono QZ.out.size)) D).trans (o9.mono (by simpa using HPV.out.fD));have HM9:Hid (OY D (D++(Value.slice a5 n c5).ownBlock.toList) w ((w5.setCell ⟨fb,0,none⟩ (.slice a5 n c5)).setCell ⟨fb,1,none⟩ (.int .i64 (min (k:Int) (n:Int))))):=af ⟨TX,λb hb=>by
    simp only [aA,eF] at hb;rcases hb with hb | hb
    ·exact .inl hb
    ·exact .inr (aF QZ.out.size (ho5v.lt b hb).1),λb hb=>by simp [hb]⟩
  clear hp5 o9 hf9 hlt5 UF hp9 TX PS ho5v PA;go_wp2_with fail
  go_ret
  exact ⟨_,rfl,HD9.out,HM9.out⟩
end
end Go.Proofs.YtnhefallmioefaaGreat
namespace Go.Proofs.YtnhefallmioefaaGreat.F
open Go.Proofs.YtnhefallmioefaaGreat
open Go.RowKit
theorem rJ (c:BitVec 32) (i:Nat):(b4 c i).toNat=c.toNat / 2 ^ (8*(3 - i)) % 256:=by unfold b4;rw [Od]
theorem DG (c:BitVec 32):qR (b4 c 0) (b4 c 1) (b4 c 2) (b4 c 3)=c:=by
 apply BitVec.eq_of_toNat_eq;rw [oa,rJ,rJ,rJ,rJ];omega
theorem FJ (x0 x1 x2 x3:UInt8):oL (qR x0 x1 x2 x3)=[x0,x1,x2,x3]:=by
 have h0:=x0.toNat_lt;have h1:=x1.toNat_lt;have h2:=x2.toNat_lt;have h3:=x3.toNat_lt;have e:∀(i:Nat) (y:UInt8),(qR x0 x1 x2 x3).toNat / 2 ^ (8*(3 - i)) % 256=y.toNat->b4 (qR x0 x1 x2 x3) i=y:=λi y h=>UInt8.toNat_inj.1 (by rw [rJ,h]);unfold oL;rw [e 0 x0 Hh,e 1 x1 Hh,
  e 2 x2 Hh,e 3 x3 Hh]
theorem Iu {a b:BitVec 32} (h:oL a=oL b):a=b:=by
 grind [oL,List.cons.injEq,DG]
theorem Iv (l:List UInt8) (i:Nat) (h:i+4<=l.length):oL (kS l i)=(l.drop i).take 4:=by
 unfold kS;rw [FJ];apply List.ext_getElem?;intro j;rcases (by omega:j=0\/j=1\/j=2\/j=3\/4<=j) with rfl | rfl | rfl | rfl | h4
 ·grind
 ·grind
 ·grind
 ·grind
 ·grind
theorem rK (l:List UInt8) (i:Nat) (c:BitVec 32) (h:(l.drop i).take 4=oL c):kS l i=c:=by
 grind [Iu,List.length,aQ,cH,qn,Iv]
theorem vF (rec rest:List UInt8) (h:rec.length<=20000):eS (cM rec++rest)=(12+rec.length,0):=by
 have hl:=dG rec;have hL:(cM rec++rest).length=12+rec.length+rest.length:=by rw [aE,hl]
 have e:cM rec++rest=oL (BitVec.ofNat 32 rec.length)++(oL (~~~ (BitVec.ofNat 32 rec.length))++(oL (Crc.wS (eU rec++rec))++(rec++rest))):=by
  unfold cM eU;simp only [bS]
 have h0:kS (cM rec++rest) 0=BitVec.ofNat 32 rec.length:=rK _ _ _ (by rw [e,List.drop_zero];rfl);have h4:kS (cM rec++rest) 4 = ~~~ (BitVec.ofNat 32 rec.length):=rK _ _ _ (by rw [e];rfl);have h8:kS (cM rec++rest) 8=Crc.wS (eU rec++rec):=rK _ _ _ (by rw [e];rfl);have hn:(BitVec.ofNat 32 rec.length).toNat=rec.length:=by rw [lV,Nat.mod_eq_of_lt az]
 have ht:(cM rec++rest).take 8=eU rec:=by rw [e];rfl
 have hd:((cM rec++rest).drop 12).take rec.length=rec:=by
  have:(cM rec++rest).drop 12=rec++rest:=by rw [e];rfl
  rw [this,List.take_left]
 unfold eS;rw [am az,h0,h4,h8,hn,am (by simp only [ne_eq,not_true_eq_false,false_or];omega),am az,ht,hd,am bL]
theorem tU (rec rest:List UInt8):((cM rec++rest).take (12+rec.length)).drop 12=rec:=by
 have e:cM rec++rest=(eU rec++oL (Crc.wS (eU rec++rec)))++(rec++rest):=by unfold cM;simp only [bS]
 have hl:(eU rec++oL (Crc.wS (eU rec++rec))).length=12:=rfl;rw [List.drop_take,show 12+rec.length - 12=rec.length by omega,e,IH hl,List.take_left]
theorem ya (rec:List UInt8) (h:rec.length<=20000) (j:Nat) (hj:j<12+rec.length):eS ((cM rec).take j)=(0,1):=by
 have hl:=dG rec;have hlt:((cM rec).take j).length=j:=yd;unfold eS;by_cases Y9:j<12
 ·rw [ay az]
 ·rw [am az];have e:cM rec=oL (BitVec.ofNat 32 rec.length)++(oL (~~~ (BitVec.ofNat 32 rec.length))++(oL (Crc.wS (eU rec++rec))++rec)):=by
   unfold cM eU;simp only [bS]
  have h0:kS ((cM rec).take j) 0=BitVec.ofNat 32 rec.length:=rK _ _ _ (by
   rw [List.drop_zero,dv,bT az,e];rfl)
  have h4:kS ((cM rec).take j) 4 = ~~~ (BitVec.ofNat 32 rec.length):=rK _ _ _ (by
   rw [List.drop_take,dv,bT az,e];rfl)
  have hn:(BitVec.ofNat 32 rec.length).toNat=rec.length:=by rw [lV,Nat.mod_eq_of_lt az]
  rw [h0,h4,hn,am (by simp only [ne_eq,not_true_eq_false,false_or];omega),ay az]
def aY (ls:List (List UInt8)):List UInt8:=ls.flatMap cM
theorem yH:aY []=[]:=rfl
theorem fe (r:List UInt8) (ls:List (List UInt8)):aY (r::ls)=cM r++aY ls:=rfl
theorem sk (ls ms:List (List UInt8)):aY (ls++ms)=aY ls++aY ms:=by simp [aY]
theorem tN (pre rest:List UInt8) (ls acc:List (List UInt8)) (h:∀r∈ls,r.length<=20000) (t:Nat) (ht:(aY ls++rest).length<=t) :
  iP (pre++(aY ls++rest)) t pre.length acc=iP (pre++(aY ls++rest)) (t - (aY ls).length) (pre.length+(aY ls).length) (acc++ls):=by
 induction ls generalizing pre acc t with
 | nil=>simp [yH]
 | cons r ls ih =>
  have hr:=h r bL;have hl:=dG r;have hlen:(aY (r::ls)++rest).length=12+r.length+(aY ls++rest).length:=by rw [fe,bS,aE,hl]
  obtain ⟨s,rfl⟩:∃s,t=s+1:=⟨t - 1,by omega⟩
  have hd:(pre++(aY (r::ls)++rest)).drop pre.length=cM r++(aY ls++rest):=by rw [List.drop_left,fe,bS]
  have hn:=vF r (aY ls++rest) hr;have SH:=tU r (aY ls++rest);have e1:iP (pre++(aY (r::ls)++rest)) (s+1) pre.length acc=iP (pre++(aY (r::ls)++rest)) s (pre.length+(12+r.length)) (acc++[r]):=by
   show (if _ then _ else if _ then _ else _)=_;rw [hd,hn];simp only;rw [am (by rw [aE,hlen];omega),ay trivial,SH]
  rw [e1];have e2:pre++(aY (r::ls)++rest)=(pre++cM r)++(aY ls++rest):=by rw [fe];simp only [bS]
  have e3:pre.length+(12+r.length)=(pre++cM r).length:=by rw [aE,hl]
  rw [e2,e3,ih (pre++cM r) (acc++[r]) (λx hx=>h x (by simp [hx])) s az];rw [fe,aE,aE,hl];rw [bS acc,List.singleton_append];rw [show pre.length+(12+r.length)+(aY ls).length=pre.length+(12+r.length+(aY ls).length) by omega];exact mB _ _ _ _ _ (by simp only [aE,hl] at hlen ht ⊢;omega) (by simp only [aE,hl] at hlen ht ⊢;omega)
theorem nS (ls:List (List UInt8)) (rest:List UInt8) (h:∀r∈ls,r.length<=20000) :
  di (aY ls++rest)=iP (aY ls++rest) rest.length (aY ls).length ls:=by
 unfold di;have:=tN [] rest ls [] h (aY ls++rest).length (ah _);simp only [cC,fp,cB] at this;rw [this];exact mB _ _ _ _ _ KL KL
theorem qE (ls:List (List UInt8)) (h:∀r∈ls,r.length<=20000):di (aY ls)=(ls,(aY ls).length,0):=by
 have:=nS ls [] h;rw [dq] at this;rw [this];rfl
theorem tQ (ls:List (List UInt8)) (rest:List UInt8) (h:∀r∈ls,r.length<=20000) (h0:0<rest.length) (h1:¬(eS rest).2=0):di (aY ls++rest)=(ls,(aY ls).length,(eS rest).2):=by
 rw [nS ls rest h];obtain ⟨t,ht⟩:∃t,rest.length=t+1:=⟨rest.length - 1,by omega⟩
 rw [ht];show (if _ then _ else if _ then _ else _)=_;rw [List.drop_left,am KL,am h1]
theorem tP (ls:List (List UInt8)) (r:List UInt8) (j:Nat) (h:∀r∈ls,r.length<=20000) (hr:r.length<=20000) (hj:j<12+r.length) :
  di (aY ls++(cM r).take j)=(ls,(aY ls).length,if j=0 then 0 else 1):=by
 grind [qE,dG,ya,tQ,aQ]
end Go.Proofs.YtnhefallmioefaaGreat.F
namespace Go.Proofs.YtnhefallmioefaaGreat
open Go.ChangeShapes Go.WideShapes Go.ChangeAt Go.RowKit
section
variable {H:Type} {enc:TypeId×Value->H} {P:Program}
theorem l9 (hl:laidOutB P=true) {W W':World} (hb:Below W.heap.size W W'):∀(ts:List TypeId) (vs:List Value) (ds:List (DataW H)) (ps:List MemPlace),
  (∀t∈ts,P.readableRec t=true/\t<P.types.size)->DataW.TrodAll enc P W 0 (λ_=>true) true ts vs ds ps->DataW.TrodAll enc P W' 0 (λb=>decide (b<W.heap.size)) true ts vs ds ps
 | [],[],[],_,_,h=>h
 | t::ts,v::vs,d::ds,_,hr,h=>by
  obtain ⟨p,q,h1,h2,h3⟩:=h;refine ⟨p,q,Below.trod hl (hr t bL).1 (hr t bL).2 h1 hb ?_,l9 hl hb ts vs ds q (λt ht=>hr t (by simp [ht])) h2,h3⟩;obtain ⟨m,hm⟩:=h1;exact DataW.trod_lt m _ _ _ hm
 | [],[],_::_,_,_,h=>h.elim
 | [],_::_,_,_,_,h=>h.elim
 | _::_,[],_,_,_,h=>h.elim
 | _::_,_::_,[],_,_,h=>h.elim
theorem EK {fn:Func} {s:ChangeSpec} {W W':World} {args:Array Value} {ds gs:List (DataW H)} {before:List MemPlace} {b:TypeId}
  (hl:laidOutB P=true) (hr:∀t∈fn.params.toList,P.readableRec t=true/\t<P.types.size) (hres:fn.resultTypes=#[b]) (hbool:P.underlying b=some .bool) (hvars:s.vars=[])
  (hs:s.fn H ds={ results:=[.lit (.bool true)],args:=ds }) (hW:DataW.Whole enc P fn.params.toList s.vars false W args.toList ds gs before) (hb:Below W.heap.size W W') :
  s.post enc P fn false true false false W args (.bool true) W':=by
 have hW':=hW;obtain ⟨p,q,hA,hV,hp,_,_⟩:=hW;rw [hvars] at hV;obtain ⟨rfl,rfl⟩:=trodVars_none hV;refine ⟨ds,[],before,[],p,[],hW',?_,?_,?_,hb.frame _,λh=>by cases h⟩
 ·rw [dq,hs,hres];exact trodAll_mk1 (shut_bool hbool _)
 ·rw [dq,hs];exact l9 hl hb _ _ _ _ hr hA
 ·rw [dq,hs,hvars];rfl
theorem kU {ts:List TypeId} {ds:List (DataW H)} (h:(DataW.weightsEach P ts ds).all (· <= reachBytes)=true) {j:Nat} {t:TypeId} {d:DataW H} (ht:ts[j]? = some t) (hd:ds[j]? = some d) :
  (DataW.weights P t d).all (· <= reachBytes)=true :=
 eB.2 λx hx=>eB.1 h x (DataW.weights_mem_each ht hd x hx)
theorem kV {e:TypeId} {x:Nat}:∀(l:List (DataW H)) (d:DataW H),d∈l->x∈DataW.weights P e d->x∈DataW.weightsAll P e l
 | [],_,hd,_=>by cases hd
 | y::l,d,hd,hx=>by
  simp only [DataW.weightsAll,aA];rcases cA.1 hd with rfl | hd
  ·exact .inl hx
  ·exact .inr (kV l d hd hx)
theorem tD {e:TypeId} {l:List (DataW H)} {d:DataW H} (h:(DataW.weightsAll P e l).all (· <= reachBytes)=true) (hd:d∈l):(DataW.weights P e d).all (· <= reachBytes)=true :=
 eB.2 λx hx=>eB.1 h x (kV l d hd hx)
end
section
variable {H:Type} {enc:TypeId×Value->H} {P:Program}
def bytesOf (zs:List Int):List UInt8:=zs.map λz:Int=>UInt8.ofNat z.toNat
theorem jW {W:World} {t e:TypeId} {fuel:Nat} {cs:List Value} {d:DataW H} {ps:List MemPlace} (ht:P.underlying t=some (.slice e)) (he:P.underlying e=some (.int .u8)) (hc:P.cellsOf e=1) (hbu:P.bytesOf e=1)
  (h:DataW.trod enc P W 0 (λ_=>true) true fuel t cs=some (d,ps)) (hsz:(DataW.weights P t d).all (· <= reachBytes)=true) :
  ∃ao n c l,cs=[.slice ao n c]/\Pg W ao n c l/\n<=c/\c<=140737488351232:=by
 rcases open_ints ht he hc h with ⟨hcs,hx⟩ | ⟨ad,n,c,zs,hcs,_,hle,_,hz,hx,hcell,WK⟩
 ·exact ⟨none,0,0,[],hcs,⟨rfl,λ_=>⟨rfl,rfl⟩,.inl rfl⟩,ah _,by omega⟩
 ·have hz':zs.length=c:=by simpa using hz
  refine ⟨some ad,n,c,bytesOf (zs.take n),hcs,⟨by simp [bytesOf];omega,(λh=>by cases h),?_⟩,hle,?_⟩
  ·by_cases h0:n=0
   ·exact .inl h0
   ·right;obtain ⟨b,off,spot⟩:=ad;have hspot:spot=none:=by
     have:=hcell 0 az;simpa [Addr.add] using World.cell?_spot this
    subst hspot;refine ⟨b,off,rfl,λi hi=>?_⟩;have h1:=hcell i az;rw [Addr.add_lit] at h1;rw [h1];have hi':i<zs.length:=az;have hw:=WK (zs.getD i 0) (by simp [hi']);simp [Lit.wf,IntKind.min,IntKind.max,IntKind.signed,IntKind.bits] at hw;have h2:(bytesOf (zs.take n)).getD i 0=UInt8.ofNat (zs.getD i 0).toNat:=by
     simp [bytesOf,hi,hi']
    rw [h2];congr 2;simp [hi'] at hw ⊢;omega
  ·obtain ⟨rfl,rfl⟩:=Prod.mk.inj hx;simp only [DataW.weights,ht,List.all_cons,bu,hbu,lits,aW,aQ,cH,reachBytes] at hsz;have:=gT hsz.1;omega
theorem xW {W:World} {t e:TypeId} {v:Value} {d:DataW H} {ps:List MemPlace} (ht:P.underlying t=some (.slice e)) (he:P.underlying e=some (.int .u8)) (hc:P.cellsOf e=1) (hbu:P.bytesOf e=1)
  (hv:∃a n c,v = .slice a n c) (h:DataW.Trod enc P W 0 (λ_=>true) true t v d ps) (hsz:(DataW.weights P t d).all (· <= reachBytes)=true) :
  ∃ao n c l,v = .slice ao n c/\Pg W ao n c l/\n<=c/\c<=140737488351232:=by
 obtain ⟨a,n,c,rfl⟩:=hv;obtain ⟨fuel,hf⟩:=h;obtain ⟨ao,n',c',l,h1,h2⟩:=jW ht he hc hbu hf hsz;simp [Value.cells] at h1;obtain ⟨rfl,rfl,rfl⟩:=h1;exact ⟨_,_,_,_,rfl,h2⟩
end
section
variable {H:Type} {enc:TypeId×Value->H} {P:Program}
end
set_option maxRecDepth 100000
open Go.ChangeMaps Go.WideMaps Go.Maps
theorem xm:laidOutB Tryz.prog=true:=dW
theorem Dn:(122:TypeId)<Tryz.prog.types.size:=gT dW
theorem wX:Tryz.prog.cellsOf 122=2:=dW
theorem Lv:Tryz.prog.cellsOf 3=1:=dW
theorem Hr:Tryz.prog.keyType 122=true:=dW
theorem Gb:(match Tryz.prog.underlying 122 with | some (.array _ _) | some (.struct _)=>true | _=>false)=true:=by rw [Tryz.underlying122]
theorem K4:KeyLaw Tryz.prog 122:=deep_law_laid xm (m:=2) az Dn dW Gb
theorem jo:Keyed Tryz.prog 122:=Keyed.of_law K4
def l6 (p:Int×Int):Value:=.agg #[.int .i64 p.1,.int .i64 p.2]
def J6 (p:Int×Int):Prop:=(-9223372036854775808<=p.1/\p.1<=9223372036854775807)/\(-9223372036854775808<=p.2/\p.2<=9223372036854775807)
theorem BR {c0 c1:Value}:(Value.agg #[c0,c1]).formed Tryz.prog 122=true:=by simp [Value.formed,Tryz.underlying122,wX]
theorem yt (p:Int×Int) (h:J6 p):∃l,keyOf Tryz.prog 122 (l6 p)=some l:=by
 have h1:(Lit.int .i64 p.1).wf=true:=by simp [Lit.wf,IntKind.min,IntKind.max,IntKind.bits,IntKind.signed];exact h.1
 have h2:(Lit.int .i64 p.2).wf=true:=by simp [Lit.wf,IntKind.min,IntKind.max,IntKind.bits,IntKind.signed];exact h.2
 obtain ⟨d,hd⟩:∃d,Tryz.prog.types.size=d+1:=⟨Tryz.prog.types.size - 1,by have:122<Tryz.prog.types.size:=Dn;omega⟩
 have hk:Tryz.prog.keyLits (Tryz.prog.types.size+1) 122 [.int .i64 p.1,.int .i64 p.2]=some [.int .i64 p.1,.int .i64 p.2]:=by
  rw [hd];simp [Program.keyLits,Tryz.underlying122,Tryz.underlying3,wX,Lv,h1,h2,dp]
 unfold keyOf;rw [Tryz.underlying122];simp only [Hr,l6,BR,Bool.and_self,if_true];rw [show (Value.agg #[Value.int .i64 p.1,.int .i64 p.2]).cells.toList=[.int .i64 p.1,.int .i64 p.2] by simp [Value.cells],hk];exact ⟨_,rfl⟩
theorem wv {p q:Int×Int} (h:l6 p=l6 q):p=q:=by
 simp only [l6,Value.agg.injEq,Array.mk.injEq,List.cons.injEq,Value.int.injEq,true_and,and_true] at h;exact Prod.ext h.1 h.2
structure IsCut (w:World) (mb:Nat) (es:List ((Int×Int)×Bool)):Prop where
 map:∃arr c,w.heap[mb]? = some (.map arr c)/\arr.toList.map (λe=>(e.key,e.val))=es.map (λe=>(l6 e.1,Value.bool e.2))
 wf:∀e∈es,J6 e.1
 nodup:(es.map (·.1)).Nodup
theorem IsCut.only {w w':World} {mb:Nat} {es:List ((Int×Int)×Bool)} (h:IsCut w mb es) {S:List Nat} (ho:Only S w w') (hs:mb∉S):IsCut w' mb es:=by
 obtain ⟨⟨arr,c,h1,h2⟩,h3,h4⟩:=h;exact ⟨⟨arr,c,ho.keeps h1 hs,h2⟩,h3,h4⟩
theorem IsCut.new (w:World):IsCut (w.alloc (.map #[] 0)) w.heap.size []:=⟨⟨#[],0,aV _ _,rfl⟩,by simp,by simp⟩
def oz (es:List ((Int×Int)×Bool)) (p:Int×Int):Bool:=((es.find? λe=>e.1==p).map (·.2)).getD false
theorem IsCut.keys {w:World} {mb:Nat} {es:List ((Int×Int)×Bool)} (h:IsCut w mb es):∀arr c,w.heap[mb]? = some (.map arr c)->∀e∈arr.toList,∃l,keyOf Tryz.prog 122 e.key=some l:=by
 obtain ⟨⟨arr,c,h1,h2⟩,h3,_⟩:=h;intro arr' c' h1' e he;rw [h1] at h1';obtain ⟨rfl,rfl⟩:arr=arr'/\c=c':=by simpa using h1'
 have:(e.key,e.val)∈arr.toList.map (λe=>(e.key,e.val)):=List.mem_map_of_mem he;rw [h2] at this;obtain ⟨x,hx,XW⟩:=d7.1 this;have hk:e.key=l6 x.1:=by simp only [ig] at XW;exact XW.1.symm
 rw [hk];exact yt x.1 (h3 x hx)
theorem LL (w:World):(zeroValue 4).run Tryz.prog w = .ok (.bool false) w:=dW
theorem Gx {w:World} {mb:Nat} {es:List ((Int×Int)×Bool)} (h:IsCut w mb es) (p:Int×Int) (hp:J6 p) :
  (Instr.lookup 63 (.map (some mb)) (l6 p) false).run Tryz.prog w = .ok (.bool (oz es p)) w:=by
 obtain ⟨arr,c,hb,hm⟩:=h.map;obtain ⟨kl,hkey⟩:=yt p hp;have ht:=Tryz.underlying63;rcases jo.find w hkey arr.toList (h.keys arr c hb) with ⟨h1,h2⟩ | ⟨j,e,h1,h2,h3⟩
 ·have hc:oz es p=false:=by
   unfold oz;rw [List.find?_eq_none.2 ?_];rfl;intro x hx ZG;have ZG:x.1=p:=by simpa using ZG
   exact MK
  rw [hc];simp [Instr.lookup,run_underlying ht,MapKept.run_getObj_map hb,jo.check w _ hkey,h1,LL,Result.andThen]
 ·have hc:e.val = .bool (oz es p):=by
   have hj:(arr.toList.map (λe=>(e.key,e.val)))[j]? = some (e.key,e.val):=by rw [fT,h2];rfl
   rw [hm,fT] at hj;obtain ⟨x,hx,XW⟩:=Option.map_eq_some_iff.1 hj;simp only [ig] at XW;have ZG:x.1=p:=wv (by rw [XW.1,h3]);have VS:x∈es:=fL hx;rw [<-XW.2];unfold oz;have:es.find? (λe=>e.1==p)=some x:=by
    cases hf:es.find? (λe=>e.1==p) with
    | none=>exact absurd (List.find?_eq_none.1 hf x VS) (by simp [ZG])
    | some y =>
     have hy:y.1=p:=by simpa using List.find?_some hf
     have hym:=List.mem_of_find?_eq_some hf;congr 1;obtain ⟨i,hi,rfl⟩:=sn hym;obtain ⟨i2,Tw,rfl⟩:=sn VS;have PO:=h.nodup;rw [List.nodup_iff_pairwise_ne] at PO;have:=(List.pairwise_iff_getElem.1 PO)
     rcases Nat.lt_trichotomy i i2 with hlt | rfl | hlt
     ·exact absurd (by rw [List.getElem_map,List.getElem_map,hy,ZG]) (this i i2 El (by simpa using Tw) hlt)
     ·rfl
     ·exact absurd (by rw [List.getElem_map,List.getElem_map,hy,ZG]) (this i2 i (by simpa using Tw) El hlt)
   rw [this];rfl
  rw [<-hc];simp [Instr.lookup,run_underlying ht,MapKept.run_getObj_map hb,jo.check w _ hkey,h1,Result.andThen]
def ew:List ((Int×Int)×Bool)->(Int×Int)->Bool->List ((Int×Int)×Bool)
 | [],p,b=>[(p,b)]
 | e::es,p,b=>if e.1=p then (p,b)::es else e::ew es p b
theorem pM (es:List ((Int×Int)×Bool)) (p:Int×Int) (b:Bool):∀x∈ew es p b,x.1=p\/x∈es:=by
 induction es with
 | nil=>intro x hx;simp [ew] at hx;exact .inl (by rw [hx])
 | cons e es ih =>
  intro x hx;unfold ew at hx;split at hx
  ·rcases cA.1 hx with rfl | hx
   ·exact .inl rfl
   ·exact .inr (aM _ hx)
  ·rcases cA.1 hx with rfl | hx
   ·exact .inr (bd ..)
   ·rcases ih x hx with h | h
    ·exact .inl h
    ·exact .inr (aM _ h)
theorem n4 {es:List ((Int×Int)×Bool)} (h:(es.map (·.1)).Nodup) (p:Int×Int) (b:Bool):((ew es p b).map (·.1)).Nodup:=by
 induction es with
 | nil=>simp [ew]
 | cons e es ih =>
  simp only [bJ,List.nodup_cons] at h;unfold ew;split
  ·rename_i he;simp only [bJ,List.nodup_cons];rw [<-he];exact h
  ·rename_i he;simp only [bJ,List.nodup_cons];refine ⟨λhm=>?_,ih h.2⟩;obtain ⟨x,hx,XW⟩:=d7.1 hm;rcases pM es p b x hx with h1 | h1
   ·exact he (XW.symm.trans h1)
   ·exact h.1 (d7.2 ⟨x,h1,XW⟩)
theorem xT {es:List ((Int×Int)×Bool)} {p:Int×Int} (h:∀e∈es,e.1≠p) (b:Bool):ew es p b=es++[(p,b)]:=by
 induction es with
 | nil=>rfl
 | cons e es ih =>
  unfold ew;rw [am (h e (bd ..)),ih (λx hx=>h x (aM _ hx))];rfl
theorem AJ {es:List ((Int×Int)×Bool)} {p:Int×Int} (PO:(es.map (·.1)).Nodup) {j:Nat} {x:(Int×Int)×Bool} (hj:es[j]? = some x) (hx:x.1=p) (b:Bool):ew es p b=es.set j (p,b):=by
 induction es generalizing j with
 | nil=>simp at hj
 | cons e es ih =>
  simp only [bJ,List.nodup_cons] at PO;cases j with
  | zero =>
   simp at hj;subst hj;unfold ew;rw [ay hx];rfl
  | succ j =>
   simp at hj;have hm:x∈es:=fL hj;unfold ew;rw [am (λhe=>PO.1 (d7.2 ⟨x,hm,hx.trans he.symm⟩)),ih PO.2 hj];rfl
theorem tS {w:World} {mb:Nat} {es:List ((Int×Int)×Bool)} (h:IsCut w mb es) (p:Int×Int) (hp:J6 p) (b:Bool) :
  ∃w',(Instr.mapUpdate 63 (.map (some mb)) (l6 p) (.bool b)).run Tryz.prog w = .ok () w'/\IsCut w' mb (ew es p b)/\Only [mb] w w':=by
 obtain ⟨arr,c,hb,hm⟩:=h.map;obtain ⟨kl,hkey⟩:=yt p hp;have ht:=Tryz.underlying63;have honly:∀o,Only [mb] w (setBlock w mb o):=λo=>⟨rfl,rfl,rfl,by simp [setBlock],λk _ hk=>heap_setBlock_other hb _ En⟩
 have WK:∀e∈ew es p b,J6 e.1:=by
  intro e he;rcases pM es p b e he with h1 | h1
  ·rw [h1];exact hp
  ·exact h.wf e h1
 rcases jo.find w hkey arr.toList (h.keys arr c hb) with ⟨h1,h2⟩ | ⟨j,e,h1,h2,h3⟩
 ·refine ⟨setBlock w mb (.map (arr.push ⟨l6 p,.bool b,c⟩) (c+1)),by simp [Instr.mapUpdate,run_underlying ht,MapKept.run_getObj_map hb,jo.check w _ hkey,h1,MapKept.run_setObj_map _ hb,Result.andThen,setBlock],⟨⟨_,_,heap_setBlock_same hb _,?_⟩,WK,n4 h.nodup _ _⟩,honly _⟩;rw [xT ?_]
  ·simp [hm]
  ·intro x hx ZG;exact MK
 ·have hj:arr[j]? = some e:=by simpa using h2
  refine ⟨setBlock w mb (.map (arr.modify j λe'=>{ e' with key:=l6 p,val:=.bool b }) c),by simp [Instr.mapUpdate,run_underlying ht,MapKept.run_getObj_map hb,jo.check w _ hkey,h1,hj,h3,jo.stays w hkey,MapKept.run_setObj_map _ hb,Result.andThen,setBlock],⟨⟨_,_,heap_setBlock_same hb _,?_⟩,WK,n4 h.nodup _ _⟩,honly _⟩;have Tv:(arr.toList.map (λe=>(e.key,e.val)))[j]? = some (e.key,e.val):=by rw [fT,h2];rfl
  rw [hm,fT] at Tv;obtain ⟨x,hx,XW⟩:=Option.map_eq_some_iff.1 Tv;simp only [ig] at XW;have ZG:x.1=p:=wv (by rw [XW.1,h3]);rw [AJ h.nodup hx ZG];have hl:(arr.modify j λe'=>{ e' with key:=l6 p,val:=.bool b }).toList=arr.toList.set j { e with key:=l6 p,val:=.bool b }:=by
   refine List.ext_getElem? λi=>?_;rw [Array.toList_modify,List.getElem?_modify,jA];by_cases YU:j=i
   ·subst YU;have:j<arr.toList.length:=(kM.1 h2).1;rw [h2];simp [this];simpa using this
   ·simp [YU]
  rw [hl,List.map_set,List.map_set,hm]
set_option maxRecDepth 20000
def eD (n room:Int) (qv:Value) (mb:Nat):Obj:=.cells #[.int .i64 n,.int .i64 room,qv,.map (some mb)] 66 (0,0)
section
variable {w:World} {nb mb:Nat} {n room:Int} {ao:Option Addr} {k cp:Nat}
theorem od (h:w.heap[nb]? = some (eD n room (.slice ao k cp) mb)) (x:Int) :
  Calls Tryz.prog 76 #[.pointer (some ⟨nb,0,none⟩),.int .i64 x] w λe w'=>e = .returned (.bool (decide (0<=x)&&decide (x<n)))/\w=w':=by
 have hc0:w.cell? ⟨nb,0,none⟩=some (.int .i64 n):=G4;clear h;by_cases hx:0<=x
 ·rw [aO hx,z9];go_enter Tryz.func76,Tryz.ntmps76
  exact oK
 ·have hd:decide (0<=x)=false:=bp hx;rw [hd,uQ];clear hx;go_enter Tryz.func76,Tryz.ntmps76
  exact oK
theorem jY (h:w.heap[nb]? = some (eD n room (.slice ao k cp) mb)) (x:Int) :
  Calls Tryz.prog 41 #[.pointer (some ⟨nb,0,none⟩),.int .i64 x] w λe w'=>e = .returned (.bool (decide (0<=x)&&decide (x<(k:Int))))/\w=w':=by
 have hc0:w.cell? ⟨nb,2,none⟩=some (.slice ao k cp):=G4;clear h;by_cases hx:0<=x
 ·rw [aO hx,z9];go_enter Tryz.func41,Tryz.ntmps41
  exact oK
 ·have hd:decide (0<=x)=false:=bp hx;rw [hd,uQ];clear hx;go_enter Tryz.func41,Tryz.ntmps41
  exact oK
theorem DN (h:w.heap[nb]? = some (eD n room (.slice ao k cp) mb)) :
  Calls Tryz.prog 32 #[.pointer (some ⟨nb,0,none⟩)] w λe w'=>e = .returned (.int .i64 (k:Int))/\w=w':=by
 have hc0:w.cell? ⟨nb,2,none⟩=some (.slice ao k cp):=G4;clear h;go_enter Tryz.func32,Tryz.ntmps32
 exact oK
end
def oJ (x y:Int):Int×Int:=(if y<x then y else x,if x<y then y else x)
theorem Gv:(Tryz.prog.info? 122).map (·.size)=some 2:=dW
theorem tE (x y:Int) (w:World):Calls Tryz.prog 77 #[.int .i64 x,.int .i64 y] w λe w'=>e = .returned (l6 (oJ x y))/\Below w.heap.size w w':=by
 go_enter Tryz.func77,Tryz.ntmps77
 rcases Int.lt_trichotomy y x with hx | rfl | hx
 ·have e:oJ x y=(y,x):=by unfold oJ;rw [ay hx,am az]
  have m1:min x y=y:=az;have m2:max x y=x:=az;exact KJ
 ·have e:oJ y y=(y,y):=by unfold oJ;rw [am az]
  have m1:min y y=y:=az;have m2:max y y=y:=az;exact KJ
 ·have e:oJ x y=(x,y):=by unfold oJ;rw [am az,ay hx]
  have m1:min x y=x:=az;have m2:max x y=y:=az;exact KJ
theorem DM (n room:Int) (w:World) (h1:1<=n) (h2:n<=64) (h3:1<=room) (h4:room<=65536) :
  Calls Tryz.prog 16 #[.int .i64 n,.int .i64 room] w λe w'=>e = .returned (.tuple #[.pointer (some ⟨w.heap.size+1,0,none⟩),.int .i64 0])/\w'.heap[w.heap.size+1]? = some (eD n room (.slice none 0 0) w.heap.size)/\IsCut w' w.heap.size []/\Below w.heap.size w w'/\w'.heap.size=w.heap.size+2:=by
 have TS:=@run_makeMap Tryz.prog;go_enter Tryz.func16,Tryz.ntmps16
 go_wp2_with fail
 go_ret2
 refine ⟨by simp,?_,?_,((aG _ _).alloc (ah _) _).alloc bL _,by simp⟩
 ·have:=aV (w.alloc (.map #[] 0)) (.cells #[.int .i64 n,.int .i64 room,.slice none 0 0,.map (some w.heap.size)] 66);simpa [eD] using this
 ·exact (IsCut.new w).only ((Only.refl [] _).alloc _) bL
theorem j7:(Tryz.prog.info? 5).map (λi=>(i.zero,i.size,i.bytes))=some (some (.int .u8 0),1,1):=dW
def gw (z:Int) (i:Nat):UInt8:=UInt8.ofNat ((BitVec.ofInt 64 z).toNat / 2 ^ (8*(7 - i)))
def iy (z:Int):List UInt8:=[gw z 0,gw z 1,gw z 2,gw z 3,gw z 4,gw z 5,gw z 6,gw z 7]
theorem B6 (z:Int) (k:Nat):IntKind.u64.wrap z / 2 ^ (8*(7 - k)) % 256=((gw z k).toNat:Int):=by
 have h1:IntKind.u64.wrap z=((BitVec.ofInt 64 z).toNat:Int):=by
  have h0:((BitVec.ofInt 64 z).toNat:Int)=z % 18446744073709551616:=Mg;rw [h0];simp [IntKind.wrap,IntKind.bits,IntKind.signed]
 rw [h1];unfold gw;generalize (BitVec.ofInt 64 z).toNat=m;rw [Od];generalize 8*(7 - k)=e;have:((2:Int) ^ e)=((2 ^ e:Nat):Int):=by rw [Int.natCast_pow];rfl
 rw [this];generalize (2:Nat) ^ e=q;rw [Int.natCast_emod,Int.natCast_ediv];rfl
theorem yS (z:Int) (k:Nat):#[Value.int .u8 (IntKind.u64.wrap z / 2 ^ (8*(7 - k)) % 256)]=([gw z k].map bv).toArray:=by
 rw [B6];rfl
theorem ie (z:Int):(iy z).length=8:=rfl
theorem FI (z:Int) (k:Nat) (h:k<8):(iy z).take (k+1)=(iy z).take k++[gw z k]:=by
 rcases k with _ | _ | _ | _ | _ | _ | _ | _ | k
 all_goals first | rfl | omega
theorem zN (ao:Option Addr) (n c:Nat) (l:List UInt8) (z:Int) (w:World) (h:Pg w ao n c l) (hn:n<=70368744177664) :
  Calls Tryz.prog 108 #[.slice ao n c,.int .i64 z] w λe w'=>∃v,e = .returned v/\OW w' w.heap.size 5 v (l++iy z)/\Below w.heap.size w w':=by
 have hlen:=h.len;have hb1:([]:List UInt8).length+n<=140737488355328:=gD;have HB:=af h;clear h;go_enter Tryz.func108,Tryz.ntmps108
 go_wp2_with (at_builtin;refine dm rfl _ _ 31 rfl w.heap.size 5 Tryz.underlying31 j7 _ [] rfl (OW.new _ _ _ [] _ rfl _ rfl GY 0 rfl dZ) _ _ _ _ rfl (HB.out.alloc _) hb1 bL ?_;intro v' w2 hown' hgr hb2)
 have hb3:Below w.heap.size w w2:=((aG _ _).alloc (ah _) _).trans hb2;rw [cC] at hown';clear hgr hb2 HB;have HL:=af hlen;clear hlen;go_loopw [5,6] (λv i wr=>∃k:Nat,k<=8/\i = .int .i64 (7 - (k:Int))/\OW wr w.heap.size 5 v (l++(iy z).take k)/\Below w.heap.size w wr) (λ_ i _=>(intOf i+1).toNat)
 case atStart=>exact ⟨0,by omega,rfl,by simpa using hown',hb3⟩
 case round =>
  obtain ⟨k,hk,rfl,hown,hbl⟩:=hrel;by_cases hlt:k<8
  ·have hc1:(l++(iy z).take k).length+1<=140737488355328:=by
    have:=HL.out;rw [aE,aQ];omega
   have hc2:=hbl.size;go_wp2_with (at_builtin;refine dm rfl _ _ 31 rfl w.heap.size 5 Tryz.underlying31 j7 _ _ rfl (hown.alloc _) _ _ _ [gw z k] rfl (uj _ [gw z k] _ (yS z k) _ _ _ rfl 1 rfl _) hc1 gD ?_;intro v3 w3 P6 Vi hb4;clear hown)
   go_roundw
   case rel=>exact ⟨k+1,by omega,by go_num,by rw [FI z k hlt,<-bS];exact P6,(hbl.alloc hc2 _).trans hb4⟩
   case measure=>simp [intOf];omega
  ·go_wp2
   go_ret
   obtain rfl:k=8:=az;exact ⟨_,rfl,by simpa [bE,iy] using hown,hbl⟩
theorem mr {P:Program} {w:World} {ops:Array Oper} {rest:List Oper} {o:Oper} {a:Act} {Q:Exit->Act->World->Prop} (hgd:o.guard=none) (sl x:Operand) (t u:TypeId)
  (ho:o.op = .call { callee:=.builtin .append,args:=#[sl,x],argTypes:=#[t,u]})
  (base:Nat) (e:TypeId) (ht:P.underlying t=some (.slice e)) (hu:P.underlying u=some .string) (hi:(P.info? e).map (λi=>(i.zero,i.size,i.bytes))=some (some (.int .u8 0),1,1))
  (v:Value) (l:List UInt8) (hs:a.eval sl=v) (hown:OW w base e v l) (s:ByteArray) (hx:a.eval x = .string s)
  (hbytes:l.length+s.size<=140737488355328) (hbase:base<=w.heap.size)
  (h:∀v' w',OW w' base e v' (l++s.data.toList)->w.grownBy w' v.ownBlock->Below base w w'->wpList P ops Q rest (a.put o.dst v') w'):wpList P ops Q (o::rest) a w:=by
 obtain ⟨i0,Q4,hz0,hz1,hz2⟩:=info_parts hi;have hb:∀w',w.grownBy w' v.ownBlock->Below base w w':=λw' hg=>(aG base w).grown hg hbase (λk hk=>(hown.lt k hk).1);refine Lib.wpList_append_own_string w hgd sl x t u ho base e i0 ht hu Q4 hz0 hz1 hz2 v _ _ hs hown s hx kE hbytes hbase ?_;intro v' w' g1 g2 _;refine h v' w' ?_ g2 (hb w' g2);unfold OW;rw [aE,cy];exact g1
def Cj (s:ByteArray):List UInt8:=iy (s.size:Int)++s.data.toList
theorem sB (s:ByteArray):s.data.toList.length=s.size:=rfl
theorem uZ (ao:Option Addr) (n c:Nat) (l:List UInt8) (s:ByteArray) (w:World) (h:Pg w ao n c l) (hn:n<=1099511627776) (hs:s.size<=1099511627776) :
  Calls Tryz.prog 110 #[.slice ao n c,.string s] w λe w'=>∃v,e = .returned v/\OW w' w.heap.size 5 v (l++Cj s)/\Below w.heap.size w w':=by
 have hlen:=h.len;go_enter Tryz.func110,Tryz.ntmps110
 go_wp2_with fail
 refine (zN ao n c l _ w h az).mono ?_;rintro e w1 ⟨v,rfl,hown,hb⟩;have hl:(l++iy (s.size:Int)).length+s.size<=140737488355328:=by rw [aE,ie];omega
 have hz:=hb.size;clear h hlen;go_wp2_with (at_builtin;refine mr rfl _ _ 31 9 rfl w.heap.size 5 Tryz.underlying31 Tryz.underlying9 j7 _ _ rfl hown _ rfl hl hz ?_;intro v3 w3 P6 Vi hb4;clear hown)
 go_ret
 exact ⟨_,rfl,by simpa [Cj,bS] using P6,hb.trans hb4⟩
def kL (zs:List Int):List UInt8:=zs.flatMap iy
theorem lD (zs:List Int):(kL zs).length=8*zs.length:=by
 induction zs with
 | nil=>rfl
 | cons z zs ih=>simp only [kL,nG,aE,ie,aX] at ih ⊢;omega
theorem Au (l:List Int) (k:Nat) (h:k<l.length):l.take (k+1)=l.take k++[l.getD k 0]:=by
 rw [gU h];simp [h]
theorem B8 (zs:List Int) (k:Nat) (h:k<zs.length):kL (zs.take (k+1))=kL (zs.take k)++iy (zs.getD k 0):=by
 rw [Au zs k h];simp [kL]
theorem lh (ao:Option Addr) (n c:Nat) (l:List UInt8) (ai:Option Addr) (m ci:Nat) (zs:List Int) (w:World) (h:Pg w ao n c l) (hi:Uf w ai m ci zs) (hn:n<=1099511627776) (hm:m<=1099511627776) :
  Calls Tryz.prog 94 #[.slice ao n c,.slice ai m ci] w λe w'=>∃v,e = .returned v/\OW w' w.heap.size 5 v (l++kL zs)/\Below w.heap.size w w':=by
 have hlen:=h.len;have hb1:([]:List UInt8).length+n<=140737488355328:=gD;have HB:=af h;clear h;have HI:=af hi;clear hi;go_enter Tryz.func94,Tryz.ntmps94
 go_wp2_with (at_builtin;refine dm rfl _ _ 31 rfl w.heap.size 5 Tryz.underlying31 j7 _ [] rfl (OW.new _ _ _ [] _ rfl _ rfl GY 0 rfl dZ) _ _ _ _ rfl (HB.out.alloc _) hb1 bL ?_;intro v' w2 hown' hgr hb2)
 have hb3:Below w.heap.size w w2:=((aG _ _).alloc (ah _) _).trans hb2;rw [cC] at hown';clear hgr hb2 HB;have HL:=af hlen;clear hlen;go_loopw [5,13] (λv i wr=>∃k:Nat,k<=m/\i = .int .i64 (k:Int)/\OW wr w.heap.size 5 v (l++kL (zs.take k))/\Below w.heap.size w wr) (λ_ i _=>m - (intOf i).toNat)
 case atStart=>exact ⟨0,by omega,rfl,by simpa [kL] using hown',hb3⟩
 case round =>
  obtain ⟨k,hk,rfl,hown,hbl⟩:=hrel;have hzl:=HI.out.len;by_cases hlt:k<m
  ·obtain ⟨ag,rfl⟩:∃ag:Nat×Nat,ai=some ⟨ag.1,ag.2,none⟩:=by
    rcases HI.out.at_ with h0 | ⟨b,off,h1,h2⟩
    ·omega
    ·exact ⟨(b,off),h1⟩
   have hcell:wr.cell? ⟨ag.1,ag.2+k,none⟩=some (.int .i64 (zs.getD k 0)):=by
    rcases HI.out.at_ with h0 | ⟨b,off,h1,h2⟩
    ·omega
    ·have:=cell_later hbl (h2 k hlt);cases h1;exact this
   have UW:=B8 zs k az;generalize zs.getD k 0=z at hcell UW;have HT:=af UW;clear UW;have hc2:=hbl.size;obtain ⟨a1,c1,rfl,hb1⟩:=hown.S9;have Vg:(l++kL (zs.take k)).length<=70368744177664:=by
    have:=HL.out;rw [aE,lD,aQ];omega
   generalize (l++kL (zs.take k)).length=nn at hown hb1 Vg;have HW:=af hown;clear hown;have PK:=af hb1;clear hb1 hzl;go_wp2_with fail
   refine (zN _ _ _ _ _ _ PK.out Vg).mono ?_;rintro e w3 ⟨v3,rfl,P6,hb3⟩;go_wp2_with fail
   go_roundw
   case rel=>exact ⟨k+1,by omega,by go_num,by rw [HT.out,<-bS];exact P6.mono hc2,hbl.trans (hb3.mono hc2)⟩
   case measure=>simp [intOf];omega
  ·go_wp2
   go_ret
   obtain rfl:k=m:=az;rw [bE az] at hown;exact ⟨_,rfl,hown,hbl⟩
structure U0 (w:World) (a:Nat) (T:Nat->Prop) (l:List UInt8) (bad:Bool):Prop where
 row:∃ao n c,w.heap[a]? = some (.cells #[.slice ao n c,.bool bad] 134 (0,0))/\Pg w ao n c l/\n<=c/\(∀p,ao=some p->T p.block)
 ne:¬T a
variable {T:Nat->Prop}
theorem EU {w w':World} {ao:Option Addr} {n c a:Nat} {l:List UInt8} (h:Pg w ao n c l) (ho:Only [a] w w') (hne:∀p,ao=some p->p.block≠a):Pg w' ao n c l:=by
 obtain ⟨h1,h2,h3⟩:=h;refine ⟨h1,h2,?_⟩;rcases h3 with h3 | ⟨b,off,h4,h5⟩
 ·exact .inl h3
 ·grind [ho.cell]
theorem EW {w:World} {b off:Nat} (c:Nat):Pg w (some ⟨b,off,none⟩) 0 c []:=⟨rfl,(λe=>by cases e),.inl rfl⟩
theorem oq {w:World} {a:Nat} {x:Value} {bad:Bool} (h1:w.heap[a]? = some (.cells #[x,.bool bad] 134 (0,0))) {ao:Option Addr} {n c:Nat} {l:List UInt8} (h2:Pg w ao n c l) (h3:n<=c) (h4:∀p,ao=some p->T p.block) (hne:¬T a) :
  U0 (w.setCell ⟨a,0,none⟩ (.slice ao n c)) a T l bad:=by
 have ho:Only [a] w (w.setCell ⟨a,0,none⟩ (.slice ao n c)):=(Only.refl [a] w).setCell bL _;exact ⟨⟨ao,n,c,be h1 0 _,EU h2 ho (λp hp e=>hne (e ▸ h4 p hp)),h3,h4⟩,hne⟩
theorem oX (a:Nat) (l:List UInt8) (bad:Bool) (w:World) (h:U0 w a T l bad) :
  Calls Tryz.prog 100 #[.pointer (some ⟨a,0,none⟩)] w λe w'=>e = .returned (.tuple #[])/\U0 w' a T [] true/\Only [a] w w':=by
 obtain ⟨⟨ao,n,c,h1,h2,h3,h4⟩,hne⟩:=h;have hc0:w.cell? ⟨a,0,none⟩=some (.slice ao n c):=rU;have hc1:w.cell? ⟨a,1,none⟩=some (.bool bad):=rU;have SL:=aU h1 0;have hf1:=aU h1 1;have HR:=af h1;go_enter Tryz.func100,Tryz.ntmps100
 go_wp2_with fail
 go_end0
 refine ⟨rfl,⟨⟨none,0,0,?_,hZ _,ah _,by simp⟩,hne⟩,?_⟩
 ·exact be (be HR.out 0 _) 1 _
 ·exact ((Only.refl [a] w).setCell bL _).setCell bL _
def gB (l:List UInt8):ByteArray:=⟨l.toArray⟩
theorem kf (w:World) (ao:Option Addr) (n c:Nat) (l:List UInt8) (h:Pg w ao n c l):(convert 31 9 (.slice ao n c)).run Tryz.prog w = .ok (.string (gB l)) w:=by
 obtain ⟨h1,h2,h3⟩:=h;cases ao with
 | none =>
  obtain ⟨rfl,rfl⟩:=h2 rfl;obtain rfl:=bP.1 h1;rw [run_convert_bytes_nil w 31 5 Tryz.underlying31 Tryz.underlying5 0 0 9 Tryz.underlying9];rfl
 | some p =>
  rcases h3 with h3 | ⟨b,off,h4,h5⟩
  ·subst h3;obtain rfl:=bP.1 h1;rw [run_convert_bytes_string w 31 9 5 _ 0 c Tryz.underlying31 Tryz.underlying5 Tryz.underlying9,run_bytesToString w p 0 c [] (run_loadCells_list w p [] bL)];rfl
  ·cases h4;rw [run_convert_bytes_arg w 31 5 Tryz.underlying31 Tryz.underlying5 b off n c (l.map λx=>(x.toNat:Int)) Bo (λi hi=>by rw [h5 i hi];simp [h1,hi]) 9 Tryz.underlying9];simp only [strOfNums,gB,tx];congr 4;rw [kP (g:=id)]
   ·simp
   ·intro x _;simp
def sH (v:Nat) (x:UInt8):Nat:=v*256+x.toNat
def sm (l:List UInt8):Nat:=l.foldl sH 0
theorem FZ (l:List UInt8) (x:UInt8):sm (l++[x])=sm l*256+x.toNat:=by simp [sm,sH]
theorem IE (l:List UInt8):sm l<256 ^ l.length:=by
 have key:∀(l:List UInt8) (v n:Nat),v<256 ^ n->l.foldl sH v<256 ^ (n+l.length):=by
  intro l;induction l with
  | nil=>intro v n h;exact h
  | cons x l ih =>
   intro v n h;have hx:=x.toNat_lt;have:=ih (sH v x) (n+1) (by unfold sH;rw [Nat.pow_succ];omega);rw [aX,show n+(l.length+1)=n+1+l.length by omega];exact this
 have:=key l 0 0 bL
 rwa [cB] at this
theorem F0 (l:List UInt8) (h:l.length<8):sm l<72057594037927936:=aK (IE l) (aF (Nat.pow_le_pow_right dZ (show l.length<=7 by omega)) dZ)
def sa (l:List UInt8):Int:=wrap64 (sm (l.take 8):Int)
theorem kT (v:Nat) (h:v<18446744073709551616):IntKind.u64.wrap (v:Int)=(v:Int):=by
 have:IntKind.u64.wrap (v:Int)=(v:Int) % 18446744073709551616:=by simp [IntKind.wrap,IntKind.bits,IntKind.signed]
 rw [this];omega
theorem Az (v:Nat) (x:UInt8) (h:v<72057594037927936):bits .or .u64 (IntKind.u64.wrap ((v:Int)*256)) (IntKind.u64.wrap (x.toNat:Int))=((v*256+x.toNat:Nat):Int):=by
 have hx:=x.toNat_lt;have e:(v:Int)*256=((v*256:Nat):Int):=by rw [Int.natCast_mul];rfl
 rw [e,kT _ az,kT _ az,u64_or_nat _ _ az az];have e2:=Nat.shiftLeft_add_eq_or_of_lt (i:=8) (b:=x.toNat) az v;rw [Nat.shiftLeft_eq,show 2 ^ 8=256 from rfl] at e2;rw [<-e2]
theorem qy (l:List UInt8) (k:Nat) (h:k<l.length):l.take (k+1)=l.take k++[l.getD k 0]:=by
 simp_all
theorem J7 {a b:Int} (h:a=b):Value.int .u64 a=Value.int .u64 b:=by rw [h]
theorem zk {a b:Int} (h:a=b):Ending.returned (Value.int .i64 a) = .returned (Value.int .i64 b):=by rw [h]
theorem zW (a:Nat) (l:List UInt8) (bad:Bool) (w:World) (h:U0 w a T l bad) :
  Calls Tryz.prog 83 #[.pointer (some ⟨a,0,none⟩)] w λe w'=>e = .returned (.bool (!bad&&l.isEmpty))/\w=w':=by
 obtain ⟨⟨ao,n,c,h1,h2,h3,h4⟩,hne⟩:=h;have hc0:w.cell? ⟨a,0,none⟩=some (.slice ao n c):=rU;have hc1:w.cell? ⟨a,1,none⟩=some (.bool bad):=rU;have he:l.isEmpty=((n:Int)==0):=by
  have:=h2.len;subst this;cases l with
  | nil=>rfl
  | cons x l =>
   rw [aX];have:¬(((l.length+1:Nat):Int)=0):=az;exact (bq.2 this).symm
 rw [he];cases bad;all_goals
  go_enter Tryz.func83,Tryz.ntmps83
  go_wp2
  go_ret
  exact ⟨rfl,rfl⟩
theorem xR (a:Nat) (l:List UInt8) (bad:Bool) (w:World) (h:U0 w a T l bad) (hl:l.length<8) :
  Calls Tryz.prog 82 #[.pointer (some ⟨a,0,none⟩)] w λe w'=>e = .returned (.int .i64 0)/\U0 w' a T [] true/\Only [a] w w':=by
 have h':=h;obtain ⟨⟨ao,n,c,h1,h2,h3,h4⟩,hne⟩:=h;have hc0:w.cell? ⟨a,0,none⟩=some (.slice ao n c):=rU;have hn:n<8:=by have:=h2.len;omega
 have HR:=af h';clear h';go_enter Tryz.func82,Tryz.ntmps82
 go_wp2_with fail
 refine (oX a l bad _ HR.out).mono ?_;exact I4
theorem xQ (a:Nat) (l:List UInt8) (bad:Bool) (w:World) (h:U0 w a T l bad) (hl:8<=l.length) (hm:l.length<=140737488355328) :
  Calls Tryz.prog 82 #[.pointer (some ⟨a,0,none⟩)] w λe w'=>e = .returned (.int .i64 (sa l))/\U0 w' a T (l.drop 8) bad/\Only [a] w w':=by
 obtain ⟨⟨ao,n,c,h1,h2,h3,h4⟩,hne⟩:=h;have hc0:w.cell? ⟨a,0,none⟩=some (.slice ao n c):=rU;have SL:=aU h1 0;have hlen:=h2.len;obtain ⟨b,off,rfl,hcb⟩:∃b off,ao=some ⟨b,off,none⟩/\∀i,i<n->w.cell? ⟨b,off+i,none⟩=some (.int .u8 ((l.getD i 0).toNat:Int)):=by
  grind [h2.at_]
 have hn8:8<=n:=az;have WQ:n<=140737488355328:=az;have Rq:8<=c:=az;have HL:=af hlen;have HR:=af h1;have HB:=af h2;have HC:=af hcb;have hba:T b:=h4 _ rfl;clear h1 h2 h4 hlen hl hm hcb;go_enter Tryz.func82,Tryz.ntmps82
 go_wp2_with fail
 go_loop [3,20] (λv i=>∃k:Nat,k<=8/\i = .int .i64 (k:Int)/\v = .int .u64 ((sm (l.take k):Nat):Int)) (λ_ i=>8 - (intOf i).toNat)
 case atStart=>exact ⟨0,by omega,rfl,rfl⟩
 case round =>
  obtain ⟨k,hk,rfl,rfl⟩:=hrel;by_cases hlt:k<8
  ·have hcell:=HC.out k az;have PL:=qy l k (by rw [HL.out];omega);have VT:=F0 (l.take k) yd;generalize l.getD k 0=x at hcell PL;have HO:=af PL;clear PL;have HV:=af VT;clear VT;go_wp2_with fail
   go_round
   case rel=>exact ⟨k+1,by omega,by go_num,J7 (by rw [Az _ _ HV.out,HO.out,FZ])⟩
   case measure=>simp [intOf];omega
  ·obtain rfl:k=8:=by omega
   generalize hv:sm (l.take 8)=v;have HV:=af hv;clear hv;by_cases hcc:c=8
   ·obtain rfl:n=8:=by omega
    go_wp2_with fail
    go_ret
    refine ⟨zk (by unfold sa;rw [HV.out]),?_,(Only.refl [a] w).setCell bL _⟩;rw [F7 Br];exact oq HR.out (EW 0) (ah _) (λp hp=>by cases hp;exact hba) hne
   ·go_wp2_with fail
    go_ret
    refine ⟨zk (by unfold sa;rw [HV.out]),?_,(Only.refl [a] w).setCell bL _⟩;exact oq HR.out (lj HB.out 8 _ hn8) az (λp hp=>by cases hp;exact hba) hne
structure Rd (α:Type) where
 v:α
 l:List UInt8
 bad:Bool
def rI (l:List UInt8) (bad:Bool):Rd Int:=if l.length<8 then ⟨0,[],true⟩ else ⟨sa l,l.drop 8,bad⟩
def rC (l:List UInt8) (bad:Bool) (dF:Int):Rd Int:=if (rI l bad).v<0\/dF<(rI l bad).v then ⟨0,[],true⟩ else rI l bad
def rT (l:List UInt8) (bad:Bool) (dF:Int):Rd ByteArray :=
 if ((rC l bad dF).l.length:Int)<(rC l bad dF).v then ⟨⟨#[]⟩,[],true⟩
 else ⟨gB ((rC l bad dF).l.take (rC l bad dF).v.toNat),(rC l bad dF).l.drop (rC l bad dF).v.toNat,(rC l bad dF).bad⟩
theorem Kf (l:List UInt8) (bad:Bool):(rI l bad).l.length<=l.length:=by
 unfold rI;split
 ·simp
 ·simp
theorem Kh (l:List UInt8) (bad:Bool) (dF:Int):(rC l bad dF).l.length<=l.length:=by
 grind [rC,Kf]
theorem Kg (l:List UInt8) (bad:Bool) (dF:Int):0<=(rC l bad dF).v:=by
 unfold rC;split
 ·simp
 ·omega
theorem ik (a:Nat) (l:List UInt8) (bad:Bool) (w:World) (h:U0 w a T l bad) (hm:l.length<=140737488355328) :
  Calls Tryz.prog 82 #[.pointer (some ⟨a,0,none⟩)] w λe w'=>e = .returned (.int .i64 (rI l bad).v)/\U0 w' a T (rI l bad).l (rI l bad).bad/\Only [a] w w':=by
 grind [rI,xR,xQ]
theorem vp (a:Nat) (l:List UInt8) (bad:Bool) (dF:Int) (w:World) (h:U0 w a T l bad) (hm:l.length<=140737488355328) :
  Calls Tryz.prog 106 #[.pointer (some ⟨a,0,none⟩),.int .i64 dF] w λe w'=>e = .returned (.int .i64 (rC l bad dF).v)/\U0 w' a T (rC l bad dF).l (rC l bad dF).bad/\Only [a] w w':=by
 unfold rC;have hk:=ik a l bad w h hm;clear h hm;generalize rI l bad=r at hk;obtain ⟨v,l1,bad1⟩:=r;simp only at hk ⊢;have HK:=af hk;clear hk;by_cases h0:v<0
 ·rw [ay (.inl h0)];exact MH
 ·by_cases h1:dF<v
  ·rw [ay (.inr h1)];exact MH
  ·rw [am az];go_enter Tryz.func106,Tryz.ntmps106
   go_wp2_with fail
   refine HK.out.mono ?_;exact I4
theorem Cf (p:Addr) (k:Nat):(p.add k).block=p.block:=by unfold Addr.add;split<;>simp
theorem EX {w:World} {p:Addr} {n c:Nat} {l:List UInt8} (h:Pg w (some p) n c l) (k c':Nat) (hk:k<=n):Pg w (some (p.add k)) (n - k) c' (l.drop k):=by
 rcases h.at_ with h3 | ⟨b',off',h4,h5⟩
 ·refine ⟨by rw [cH,h.len],(λe=>by cases e),.inl az⟩
 ·cases h4;rw [Addr.add_lit];exact lj h k c' hk
theorem xP (a:Nat) (l:List UInt8) (bad:Bool) (dF:Int) (w:World) (h:U0 w a T l bad) (hm:l.length<=140737488355328) :
  Calls Tryz.prog 89 #[.pointer (some ⟨a,0,none⟩),.int .i64 dF] w λe w'=>e = .returned (.string (rT l bad dF).v)/\U0 w' a T (rT l bad dF).l (rT l bad dF).bad/\Only [a] w w':=by
 unfold rT;have hk:=vp a l bad dF w h hm;have hp:=Kg l bad dF;have hlen:=Kh l bad dF;generalize rC l bad dF=r at hk hp hlen;obtain ⟨v,l1,bad1⟩:=r;simp only at hk hp hlen ⊢;have Uo:l1.length<=140737488355328:=az;clear h hm hlen;have HK:=af hk;clear hk;obtain ⟨k,rfl⟩:=Int.eq_ofNat_of_zero_le hp;by_cases h0:l1.length<k
 ·rw [ay az];go_enter Tryz.func89,Tryz.ntmps89
  go_wp2_with fail
  refine HK.out.mono ?_;rintro e w1 ⟨rfl,hr,ho⟩;have hr':=hr;obtain ⟨⟨ao,n,c,h1,h2,h3,h4⟩,hne⟩:=hr';have hc0:w1.cell? ⟨a,0,none⟩=some (.slice ao n c):=rU;have hn:n<k:=by have:=h2.len;omega
  have HR:=af hr;clear hr;go_wp2_with fail
  refine (oX a _ _ _ HR.out).mono ?_;rintro e w2 ⟨rfl,hr2,OZ⟩;go_wp2
  go_ret
  exact ⟨rfl,hr2,ho.trans OZ⟩
 ·rw [am az];rw [bU];go_enter Tryz.func89,Tryz.ntmps89
  go_wp2_with fail
  refine HK.out.mono ?_;rintro e w1 ⟨rfl,hr,ho⟩;obtain ⟨⟨ao,n,c,h1,h2,h3,h4⟩,hne⟩:=hr;have hc0:w1.cell? ⟨a,0,none⟩=some (.slice ao n c):=rU;have SL:=aU h1 0;have hlen:=h2.len;have hn:k<=n:=az;have hconv:=kf w1 _ _ _ _ (ot h2 k hn);generalize hs:gB (l1.take k)=s at hconv;have HS:=af hs;clear hs;have HR:=af h1;clear h1;have HB:=af h2;clear h2;have H4:=af h4;clear h4;have HL:=af hlen;have WQ:n<=140737488355328:=az;clear hlen h0 Uo;cases ao with
  | none =>
   obtain ⟨rfl,rfl⟩:=HB.out.nil rfl;obtain rfl:k=0:=az;go_wp2_with fail
   go_ret
   exact ⟨by rw [HS.out];rfl,oq HR.out HB.out (ah _) H4.out hne,ho.trans ((Only.refl [a] _).setCell bL _)⟩
  | some p =>
   obtain ⟨b,off,ins⟩:=p;by_cases hkc:k=c
   ·subst hkc;obtain rfl:n=k:=az;go_wp2_with fail
    go_ret
    refine ⟨by rw [HS.out];rfl,?_,ho.trans ((Only.refl [a] _).setCell bL _)⟩;rw [F7 Br];exact oq HR.out (ri 0) (ah _) (λp hp=>by cases hp;exact H4.out _ rfl) hne
   ·go_wp2_with fail
    go_ret
    refine ⟨by rw [HS.out];rfl,?_,ho.trans ((Only.refl [a] _).setCell bL _)⟩;exact oq HR.out (EX HB.out k _ hn) az (λp hp=>by cases hp;rw [Cf];exact H4.out _ rfl) hne
theorem jk {w:World} {base:Nat} {e:TypeId} {v:Value} {l:List UInt8} (h:OW w base e v l) :
  ∃ao c,v = .slice ao l.length c/\Pg w ao l.length c l/\l.length<=c/\(∀p,ao=some p->base<=p.block/\p.block<w.heap.size):=by
 obtain ⟨ao,c,rfl,h1⟩:=h.S9;refine ⟨ao,c,rfl,h1,?_,?_⟩
 ·rcases h.2 with ⟨h2,h3⟩ | ⟨g,cap,cur,hv,hg,hh,hn,hm,hs,ht⟩
  ·omega
  ·cases hv;exact hn
 ·intro p hp;subst hp;exact h.lt p.block (by
   rcases h.2 with ⟨h2,h3⟩ | ⟨g,cap,cur,hv,hg,hh,hn,hm,hs,ht⟩
   ·cases h2
   ·cases hv;rfl)
theorem Du (ao:Option Addr) (n c:Nat) (l:List UInt8) (w:World) (h:Pg w ao n c l) (hn:n<=1099511627776) :
  Calls Tryz.prog 59 #[.slice ao n c] w λe w'=>∃a,e = .returned (.pointer (some ⟨a,0,none⟩))/\U0 w' a (λb=>w.heap.size<=b/\b<a) l false/\w.heap.size<=a/\a<w'.heap.size/\Below w.heap.size w w':=by
 have hlen:=h.len;have hb1:([]:List UInt8).length+n<=140737488355328:=gD;have HB:=af h;clear h;go_enter Tryz.func59,Tryz.ntmps59
 go_wp2_with (at_builtin;refine dm rfl _ _ 31 rfl w.heap.size 5 Tryz.underlying31 j7 _ [] rfl (OW.new _ _ _ [] _ rfl _ rfl GY 0 rfl dZ) _ _ _ _ rfl (HB.out.alloc _) hb1 bL ?_;intro v' w2 hown' hgr hb2;clear hgr;rw [cC] at hown';obtain ⟨a1,c1,hv1,Yc,hc1,PT⟩:=jk hown';subst hv1;clear hown';rw [hlen] at Yc hc1)
 have hz:=hb2.size;go_ret
 refine ⟨w2.heap.size,rfl,⟨⟨_,_,_,aV _ _,Yc.alloc _,hc1,λp hp=>PT p hp⟩,λh=>Nat.lt_irrefl _ h.2⟩,by simp at hz;omega,by simp,(((aG _ _).alloc (ah _) _).trans hb2).alloc (by simp at hz;omega) _⟩
theorem yT (z:Int) (i:Nat):(gw z i).toNat=(BitVec.ofInt 64 z).toNat / 2 ^ (8*(7 - i)) % 256:=by
 unfold gw;rw [Od]
theorem F1 (z:Int):sm (iy z)=(BitVec.ofInt 64 z).toNat:=by
 have h:=(BitVec.ofInt 64 z).isLt;simp only [sm,iy,gS,List.foldl_nil,sH,yT];generalize (BitVec.ofInt 64 z).toNat=M at *;simp only [Nat.reduceMul,Nat.reduceSub,Nat.reducePow];omega
theorem sc (z:Int):((BitVec.ofInt 64 z).toNat:Int)=z % 18446744073709551616:=Mg
theorem nK (z:Int) (rest:List UInt8) (h1 : -9223372036854775808<=z) (h2:z<=9223372036854775807):sa (iy z++rest)=z:=by
 unfold sa;have h3:(iy z++rest).take 8=iy z:=by simp [iy]
 rw [h3,F1,sc];unfold wrap64;omega
theorem Ax (l:List UInt8):(gB l).size=l.length:=by simp [gB,ByteArray.size]
theorem mF (z:Int) (rest:List UInt8) (bad:Bool) (h1 : -9223372036854775808<=z) (h2:z<=9223372036854775807):rI (iy z++rest) bad=⟨z,rest,bad⟩:=by
 unfold rI;rw [am (by rw [aE,ie];omega),nK z rest h1 h2];rfl
theorem Ki (z:Int) (rest:List UInt8) (bad:Bool) (dF:Int) (h0:0<=z) (h1:z<=dF) (h2:dF<=9223372036854775807):rC (iy z++rest) bad dF=⟨z,rest,bad⟩:=by
 unfold rC;rw [mF z rest bad az az,am (by simp only;omega)]
theorem Ay (s:ByteArray):gB s.data.toList=s:=by unfold gB;simp
theorem Ke (s:ByteArray) (rest:List UInt8) (bad:Bool) (dF:Int) (h1:(s.size:Int)<=dF) (h2:dF<=9223372036854775807):rT (Cj s++rest) bad dF=⟨s,rest,bad⟩:=by
 unfold rT Cj;rw [bS,Ki _ _ bad dF az h1 h2,am (by simp only [aE,sB];omega)];simp only [bU];rw [<-sB s,List.take_left,List.drop_left,Ay]
def SR (A B:List Nat):Prop:=∀x∈A,x∉B
theorem SR.symm {A B:List Nat} (h:SR A B):SR B A:=λx hb ha=>h x ha hb
def Ext (A A':List Nat) (w:World):Prop:=∀b∈A',b∈A\/w.heap.size<=b
theorem Ext.refl (A:List Nat) (w:World):Ext A A w:=λb h=>.inl h
theorem OY.Vm {D D' X:List Nat} {w w':World} (h:OY D D' w w') (hd:SR D X) (hx:∀b∈X,b<w.heap.size):SR D' X:=λb hb hX=>by
 rcases h.gr b hb with h1 | h1
 ·exact hd b h1 hX
 ·have:=hx b hX;omega
def Qi (w:World) (A:List Nat) (v:Value) (l:List UInt8):Prop:=∃ao c,v = .slice ao l.length c/\Pg w ao l.length c l/\l.length<=c/\∀p,ao=some p->p.block∉A/\p.block<w.heap.size
theorem Qi.step {w w':World} {A A' S:List Nat} {v:Value} {l:List UInt8} (h:Qi w A v l) (ho:Only S w w') (hS:∀b∈S,b∈A) (he:Ext A A' w):Qi w' A' v l:=by
 obtain ⟨ao,c,rfl,h1,h2,h3⟩:=h;refine ⟨ao,c,rfl,j6 h1 ho (λb off i hb=>λhm=>(h3 _ hb.1).1 (hS b hm)),h2,λp hp=>?_⟩;exact Mf
theorem Qi.below {w w':World} {A:List Nat} {v:Value} {l:List UInt8} (h:Qi w A v l) (hb:Below w.heap.size w w'):Qi w' A v l:=h.step (Only.OL hb []) (λb hb=>by cases hb) (Ext.refl _ _)
theorem Qi.new {w w':World} {A:List Nat} {v:Value} {l:List UInt8} (h:OW w' w.heap.size 5 v l) (hA:∀b∈A,b<w.heap.size):Qi w' A v l:=by
 obtain ⟨ao,c,rfl,h1,h2,h3⟩:=jk h;exact ⟨ao,c,rfl,h1,h2,λp hp=>⟨λhm=>by have:=hA _ hm;have:=(h3 p hp).1;omega,(h3 p hp).2⟩⟩
theorem Qi.mono {w:World} {A A':List Nat} {v:Value} {l:List UInt8} (h:Qi w A' v l) (hs:∀b∈A,b∈A'):Qi w A v l:=by
 obtain ⟨ao,c,h0,h1,h2,h3⟩:=h;exact ⟨ao,c,h0,h1,h2,λp hp=>⟨λhm=>(h3 p hp).1 (hs _ hm),(h3 p hp).2⟩⟩
structure Wl where
 lives:Int
 done:Bool
 recs:List (List UInt8)
def dH (recs:List (List UInt8)):List Int:=(List.range recs.length).map λi=>((F.aY (recs.take (i+1))).length:Int)
theorem gK (recs:List (List UInt8)):(dH recs).length=recs.length:=by simp [dH]
structure TM (w:World) (A L:List Nat) (vr ve:Value) (recs:List (List UInt8)):Prop where
 rr:∃us:List Value,us.length=recs.length/\w.ownsRow 0 31 1 vr recs.length us/\∀i,i<recs.length->Qi w A (us.getD i undef) (recs.getD i [])
 re:OX w 0 3 ve (dH recs)
 vrL:∀k,vr.ownBlock=some k->k∈L
 veL:∀k,ve.ownBlock=some k->k∈L
structure R9 (w:World) (A L:List Nat) (l d:Nat) (s:Wl):Prop where
 ex:∃vr ve,w.heap[l]? = some (.cells #[.pointer (some ⟨d,0,none⟩),.int .i64 s.lives,.bool s.done,.int .i64 1,vr,ve] 103 (0,0))/\TM w A L vr ve s.recs
 mem:l∈L
 lt:∀b∈L,b<w.heap.size
theorem TM.keep {w w':World} {A A' L S:List Nat} {vr ve:Value} {recs:List (List UInt8)} (h:TM w A L vr ve recs) (ho:Only S w w') (hL:∀b∈L,b∉S) (hS:∀b∈S,b∈A) (he:Ext A A' w):TM w' A' L vr ve recs:=by
 obtain ⟨⟨us,h1,h2,h3⟩,h4,h5,h6⟩:=h;exact ⟨⟨us,h1,bR h2 ho (λk hk=>hL k (h5 k hk)),λi hi=>(h3 i hi).step ho hS he⟩,bR h4 ho (λk hk=>hL k (h6 k hk)),h5,h6⟩
theorem R9.keep {w w':World} {A A' L S:List Nat} {l d:Nat} {s:Wl} (h:R9 w A L l d s) (ho:Only S w w') (hL:∀b∈L,b∉S) (hS:∀b∈S,b∈A) (he:Ext A A' w):R9 w' A' L l d s:=by
 obtain ⟨⟨vr,ve,h1,h2⟩,h3,h4⟩:=h;exact ⟨⟨vr,ve,ho.keeps h1 (hL _ h3),h2.keep ho hL hS he⟩,h3,λb hb=>aK (h4 b hb) ho.size⟩
theorem R9.below {w w':World} {A L:List Nat} {l d:Nat} {s:Wl} (h:R9 w A L l d s) (hb:Below w.heap.size w w'):R9 w' A L l d s:=h.keep (Only.OL hb []) (λb _=>by simp) (λb hb=>by cases hb) (Ext.refl _ _)
section
variable {w:World} {A D L:List Nat} {l d:Nat} {s:Wl} {k:Dk}
theorem BT (h:R9 w A L l d s):Calls Tryz.prog 55 #[.pointer (some ⟨l,0,none⟩)] w λe w'=>e = .returned (.int .i64 1)/\w=w':=by
 obtain ⟨⟨vr,ve,h1,_⟩,_⟩:=h;have hc:w.cell? ⟨l,3,none⟩=some (.int .i64 1):=rU;go_enter Tryz.func55,Tryz.ntmps55
 exact oK
theorem oe (h:R9 w A L l d s) (hl:s.recs.length<=1000000000):Calls Tryz.prog 56 #[.pointer (some ⟨l,0,none⟩)] w λe w'=>e = .returned (.int .i64 (1+(s.recs.length:Int)))/\∃q,w'=w.drewN q:=by
 obtain ⟨⟨vr,ve,h1,⟨us,hu,hr,_⟩,_⟩,_⟩:=h;obtain ⟨ao,c,rfl,_,_⟩:=ej hr;have hc:w.cell? ⟨l,3,none⟩=some (.int .i64 1):=rU;have Vl:w.cell? ⟨l,4,none⟩=some (.slice ao s.recs.length c):=rU;go_enter Tryz.func56,Tryz.ntmps56
 go_wp2_with fail
 go_quiet (fail)
 go_wp2_with fail
 go_ret
 exact ⟨rfl,nq,rfl⟩
def n8 (s:Wl) (k:Dk):Bool:=s.done||(!(k.lives==s.lives)||k.off)
theorem t8 (h:R9 w A L l d s) (hd:O6 w D d k):Calls Tryz.prog 87 #[.pointer (some ⟨l,0,none⟩)] w λe w'=>e = .returned (.bool (n8 s k))/\∃q,w'=w.drewN q:=by
 have HD:=af hd;obtain ⟨⟨vr,ve,h1,_⟩,_⟩:=h;have hc0:w.cell? ⟨l,0,none⟩=some (.pointer (some ⟨d,0,none⟩)):=rU;have hc1:w.cell? ⟨l,1,none⟩=some (.int .i64 s.lives):=rU;have hc2:w.cell? ⟨l,2,none⟩=some (.bool s.done):=rU;clear h1 hd;unfold n8;generalize s.done=dn at *;generalize s.lives=sl at *;cases dn with
 | true =>
  go_enter Tryz.func87,Tryz.ntmps87
  go_upto_region 1 with (fail)
  refine wp_region_held_drew (S:=λw'=>w'.cell? ⟨l,0,none⟩=some (.pointer (some ⟨d,0,none⟩))/\w'.cell? ⟨l,1,none⟩=some (.int .i64 sl)/\w'.cell? ⟨l,2,none⟩=some (.bool true)) dW ⟨hc0,hc1,hc2⟩ (λaD=>?_);refine aJ 0 ?_;refine aJ 1 ?_;refine aJ 2 ?_;refine aJ 3 ?_;refine aJ 4 ?_;refine dR 5 ?_;refine dR 6 ?_;refine dR 7 ?_;refine dR 8 ?_;refine dR 9 ?_;refine dR 10 ?_;refine dR 11 ?_;refine dR 12 ?_;refine dR 13 ?_;refine dR 14 ?_;exact MF
 | false =>
  by_cases hl:k.lives=sl
  ·have Uq:(k.lives==sl)=true:=by simpa using hl
   rw [Uq];have hne:(k.lives != sl)=false:=by rw [bne,Uq];rfl
   clear hl Uq;go_enter Tryz.func87,Tryz.ntmps87
   go_upto_region 1 with (fail)
   refine wp_region_held_drew (S:=λw'=>w'.cell? ⟨l,0,none⟩=some (.pointer (some ⟨d,0,none⟩))/\w'.cell? ⟨l,1,none⟩=some (.int .i64 sl)/\w'.cell? ⟨l,2,none⟩=some (.bool false)) dW ⟨hc0,hc1,hc2⟩ (λaD=>?_);refine aJ 0 ?_;refine aJ 1 ?_;refine aJ 2 ?_;refine aJ 3 ?_;refine aJ 4 ?_;refine aJ 5 ?_;refine aJ 6 ?_;refine aJ 7 ?_;refine aJ 8 ?_;refine aJ 10 ?_;refine aJ 11 ?_;refine aJ 12 ?_;refine aJ 13 ?_;refine dh 9 λK hK=>?_;go_simp
   refine (iq (HD.out.below (bK w))).mono ?_;rintro e wa ⟨rfl,rfl⟩;go_wp2_with fail
   refine hK.out _ _ aD (λaD=>?_);refine bX ?_;refine aJ 14 ?_;refine aJ 15 ?_;refine aJ 16 ?_;refine aJ 17 ?_;refine aJ 18 ?_;refine aJ 19 ?_;refine aJ 20 ?_;refine dh 21 λK hK=>?_;go_simp
   refine (pd (HD.out.below (bK w))).mono ?_;rintro e wb ⟨rfl,rfl⟩;go_wp2_with fail
   refine hK.out _ _ aD (λaD=>?_);refine bX ?_;refine aJ 22 ?_;refine aJ 23 ?_;refine aJ 24 ?_;refine iX ?_;go_wp2_with fail
   go_ret
   exact ⟨by simp,1,rfl⟩
  ·have Uq:(k.lives==sl)=false:=by simpa using hl
   rw [Uq];have hne:(k.lives != sl)=true:=by rw [bne,Uq];rfl
   clear hl Uq;go_enter Tryz.func87,Tryz.ntmps87
   go_upto_region 1 with (fail)
   refine wp_region_held_drew (S:=λw'=>w'.cell? ⟨l,0,none⟩=some (.pointer (some ⟨d,0,none⟩))/\w'.cell? ⟨l,1,none⟩=some (.int .i64 sl)/\w'.cell? ⟨l,2,none⟩=some (.bool false)) dW ⟨hc0,hc1,hc2⟩ (λaD=>?_);refine aJ 0 ?_;refine aJ 1 ?_;refine aJ 2 ?_;refine aJ 3 ?_;refine aJ 4 ?_;refine aJ 5 ?_;refine aJ 6 ?_;refine aJ 7 ?_;refine aJ 8 ?_;refine aJ 10 ?_;refine aJ 11 ?_;refine aJ 12 ?_;refine aJ 13 ?_;refine dh 9 λK hK=>?_;go_simp
   refine (iq (HD.out.below (bK w))).mono ?_;rintro e wa ⟨rfl,rfl⟩;go_wp2_with fail
   refine hK.out _ _ aD (λaD=>?_);refine bX ?_;refine aJ 14 ?_;exact MF
def lB (s:Wl) (e:Int):Wl:={ s with done:=s.done || !(e==0)}
theorem TM.only_l {w':World} {vr ve:Value} {recs:List (List UInt8)} {cs:Array Value} (h:TM w A L vr ve recs) (ho:Only [l] w w') (hl:w.heap[l]? = some (.cells cs 103 (0,0))) (hA:l∈A):TM w' A L vr ve recs:=by
 obtain ⟨⟨us,h1,h2,h3⟩,h4,h5,h6⟩:=h;refine ⟨⟨us,h1,bR h2 ho (λb hb hm=>?_),λi hi=>(h3 i hi).step ho (by simpa using hA) (Ext.refl _ _)⟩,bR h4 ho (λb hb hm=>?_),h5,h6⟩
 ·rcases h2.2 with ⟨rfl,_⟩ | ⟨g,cap,cur,rfl,_,hg,_⟩
  ·simp [Value.ownBlock] at hb
  ·exact JE
 ·rcases h4.2 with ⟨rfl,_⟩ | ⟨g,cap,cur,rfl,_,hg,_⟩
  ·simp [Value.ownBlock] at hb
  ·exact JE
theorem kg (h:R9 w A L l d s) (hA:∀b∈L,b∈A) (e0:Int):Calls Tryz.prog 88 #[.pointer (some ⟨l,0,none⟩),.int .i64 e0] w λe w'=>e = .returned (.int .i64 e0)/\R9 w' A L l d (lB s e0)/\Only L w w':=by
 obtain ⟨⟨vr,ve,h1,h2⟩,h3,h4⟩:=h;have hc2:w.cell? ⟨l,2,none⟩=some (.bool s.done):=rU;have hz2:=aU h1 2;have Ro:∀b:Bool,b=(s.done || !(e0==0))->R9 (w.setCell ⟨l,2,none⟩ (.bool b)) A L l d (lB s e0)/\Only L w (w.setCell ⟨l,2,none⟩ (.bool b)):=by
  intro b hb;have ho:Only [l] w (w.setCell ⟨l,2,none⟩ (.bool b)):=(Only.refl _ _).setCell bL _;refine ⟨⟨⟨vr,ve,?_,h2.only_l ho h1 (hA _ h3)⟩,h3,λx hx=>aK (h4 x hx) ho.size⟩,ho.mono (by simpa using h3)⟩;have:=be h1 2 (.bool b);rw [hb] at this ⊢;exact this
 have HF:=af Ro;clear h1 h2 h3 h4 Ro;generalize s.done=dn at *;cases dn with
 | true =>
  go_enter Tryz.func88,Tryz.ntmps88
  go_wp2_with fail
  go_ret
  obtain ⟨f1,f2⟩:=HF.out true bL;exact ⟨rfl,f1,f2⟩
 | false =>
  by_cases h0:e0=0
  ·have hb:(e0 != 0)=false:=by simpa using h0
   have HE:Hid ((e0==0)=true):=af (by simpa using h0);clear h0;go_enter Tryz.func88,Tryz.ntmps88
   go_wp2_with fail
   go_ret
   obtain ⟨f1,f2⟩:=HF.out false (by rw [HE.out];rfl);exact ⟨rfl,f1,f2⟩
  ·have hb:(e0 != 0)=true:=by simpa using h0
   have HE:Hid ((e0==0)=false):=af (by simpa using h0);clear h0;go_enter Tryz.func88,Tryz.ntmps88
   go_wp2_with fail
   go_ret
   obtain ⟨f1,f2⟩:=HF.out true (by rw [HE.out];rfl);exact ⟨rfl,f1,f2⟩
theorem BX (recs:List (List UInt8)) (i:Nat) (hi:i<recs.length):(dH recs).getD i 0=((F.aY (recs.take (i+1))).length:Int):=by
 simp [dH,hi]
theorem CT (h:R9 w A L l d s) (n:Nat) (hn:n<=s.recs.length) (hb:s.recs.length<=1000000000):Calls Tryz.prog 114 #[.pointer (some ⟨l,0,none⟩),.int .i64 (n:Int)] w λe w'=>e = .returned (.int .i64 ((F.aY (s.recs.take n)).length:Int))/\w=w':=by
 obtain ⟨⟨vr,ve,h1,_,h2,_⟩,_⟩:=h;by_cases h0:n=0
 ·subst h0;go_enter Tryz.func114,Tryz.ntmps114
  exact oK
 ·obtain ⟨j,rfl⟩:∃j,n=j+1:=⟨n - 1,by omega⟩
  obtain ⟨ao,c,rfl,hi⟩:=h2.Xr;rw [gK] at hi;have hat:=BX s.recs j az;have UZ:w.cell? ⟨l,5,none⟩=some (.slice ao (dH s.recs).length c):=rU;rw [gK] at UZ;rcases hi.at_ with h3 | ⟨b,off,rfl,h4⟩
  ·omega
  have hce:=h4 j az;rw [hat] at hce;generalize (F.aY (s.recs.take (j+1))).length=fl at *;generalize s.recs.length=n9 at *;go_enter Tryz.func114,Tryz.ntmps114
  exact oK
end
structure WD (w:World) (A D L:List Nat) (l d:Nat) (s:Wl) (k:Dk):Prop where
 wl:R9 w A L l d s
 dk:O6 w D d k
 Vm:SR D L
 dA:∀b∈D,b∈A
 lA:∀b∈L,b∈A
 alt:∀b∈A,b<w.heap.size
section
variable {w:World} {A D L:List Nat} {l d:Nat} {s:Wl} {k:Dk}
theorem WD.below {w':World} (h:WD w A D L l d s k) (hb:Below w.heap.size w w'):WD w' A D L l d s k :=
 ⟨h.wl.below hb,h.dk.below hb,h.Vm,h.dA,h.lA,λb hb2=>aK (h.alt b hb2) hb.size⟩
theorem WD.drewN (h:WD w A D L l d s k) (q:Nat):WD (w.drewN q) A D L l d s k:=h.below ⟨rfl,rfl,rfl,ah _,λ_ _=>rfl⟩
theorem WD.TC {w':World} {s':Wl} (h:WD w A D L l d s k) (hw:R9 w' A L l d s') (ho:Only L w w'):WD w' A D L l d s' k :=
 ⟨hw,h.dk.keep ho h.Vm,h.Vm,h.dA,h.lA,λb hb=>aK (h.alt b hb) ho.size⟩
theorem WD.only_D {w':World} {k':Dk} (h:WD w A D L l d s k) (hk:O6 w' D d k') (ho:Only D w w'):WD w' A D L l d s k' :=
 ⟨h.wl.keep ho h.Vm.symm h.dA (Ext.refl _ _),hk,h.Vm,h.dA,h.lA,λb hb=>aK (h.alt b hb) ho.size⟩
def gX (s:Wl) (k:Dk):Int×Wl×Dk :=
 if n8 s k then (10,lB s 10,k) else match k.file with | none=>(0,s,k) | some (l,_)=>(0,lB s 0,{ k with file:=some (l,l.length)})
theorem vz {s:Wl} {k:Dk} (h:n8 s k=false):k.off=false:=by
 unfold n8 at h;simp at h;exact h.2.2
theorem Aa (h:WD w A D L l d s k):Calls Tryz.prog 109 #[.pointer (some ⟨l,0,none⟩)] w λe w'=>e = .returned (.int .i64 (gX s k).1)/\WD w' A D L l d (gX s k).2.1 (gX s k).2.2/\Only (D++L) w w':=by
 have H:=af h;have U1:=af (t8 h.wl h.dk);have hc0:w.cell? ⟨l,0,none⟩=some (.pointer (some ⟨d,0,none⟩)):=I0;clear h;unfold gX;cases QF:n8 s k with
 | true =>
  rw [QF] at U1;clear QF;go_enter Tryz.func109,Tryz.ntmps109
  go_wp2_with fail
  refine U1.out.mono ?_;rintro e w1 ⟨rfl,q,rfl⟩;have H1:=af (H.out.drewN q);have Sm:Hid (Only (D++L) w (w.drewN q)):=af ((Only.refl _ _).drewN q);generalize w.drewN q=W at *;go_wp2_with fail
  refine (kg H1.out.wl H1.out.lA 10).mono ?_;rintro e w2 ⟨rfl,hw2,OZ⟩;have H2:=af (H1.out.TC hw2 OZ);have QL:=af (Sm.out.trans (OZ.mono (λb hb=>by simp [hb])));clear hw2 OZ;go_wp2_with fail
  go_ret
  exact ⟨rfl,H2.out,QL.out⟩
 | false =>
  rw [QF] at U1;have HKO:=af (vz QF);clear QF;cases hf:k.file with
  | none =>
   have HFL:=af hf;clear hf;go_enter Tryz.func109,Tryz.ntmps109
   go_wp2_with fail
   refine U1.out.mono ?_;rintro e w1 ⟨rfl,q,rfl⟩;have H1:=af (H.out.drewN q);have Sm:Hid (Only (D++L) w (w.drewN q)):=af ((Only.refl _ _).drewN q);have hc1:(w.drewN q).cell? ⟨l,0,none⟩=some (.pointer (some ⟨d,0,none⟩)):=hc0;generalize w.drewN q=W at *;go_wp2_with fail
   refine (Gk H1.out.dk HKO.out HFL.out).mono ?_;rintro e w2 ⟨rfl,hb2⟩;have H2:=af (H1.out.below hb2);have QL:=af (Sm.out.trans (Only.OL hb2 (D++L)));clear hb2;go_wp2_with fail
   go_ret
   exact ⟨rfl,H2.out,QL.out⟩
  | some p =>
   obtain ⟨bl,kk⟩:=p;have HFL:=af hf;clear hf;go_enter Tryz.func109,Tryz.ntmps109
   go_wp2_with fail
   refine U1.out.mono ?_;rintro e w1 ⟨rfl,q,rfl⟩;have H1:=af (H.out.drewN q);have Sm:Hid (Only (D++L) w (w.drewN q)):=af ((Only.refl _ _).drewN q);have hc1:(w.drewN q).cell? ⟨l,0,none⟩=some (.pointer (some ⟨d,0,none⟩)):=hc0;generalize w.drewN q=W at *;go_wp2_with fail
   refine (C9 H1.out.dk HKO.out HFL.out).mono ?_;rintro e w2 ⟨rfl,PJ,OZ⟩;have H2:=af (H1.out.only_D PJ OZ);have QL:=af (Sm.out.trans (OZ.mono (λb hb=>by simp [hb])));clear PJ OZ;go_wp2_with fail
   refine (kg H2.out.wl H2.out.lA 0).mono ?_;rintro e w3 ⟨rfl,hw3,RD⟩;have H3:=af (H2.out.TC hw3 RD);have S5:=af (QL.out.trans (RD.mono (λb hb=>by simp [hb])));clear hw3 RD;go_wp2_with fail
   go_ret
   exact ⟨rfl,H3.out,S5.out⟩
theorem NH (h:WD w A D L l d s k) (QF:n8 s k=false) (n:Nat) (hn:n<s.recs.length) (hb:s.recs.length<=1000000000) (hr:(s.recs.getD n []).length<=1048576) :
  Calls Tryz.prog 57 #[.pointer (some ⟨l,0,none⟩),.int .i64 ((n:Int)+1)] w λe w'=>∃v,e = .returned (.tuple #[v,.int .i64 0])/\OW w' w.heap.size 5 v (s.recs.getD n [])/\Below w.heap.size w w':=by
 have H:=af h;have U1:=af (t8 h.wl h.dk);rw [QF] at U1;obtain ⟨⟨vr,ve,h1,⟨us,hu,TF,Qz⟩,_⟩,_⟩:=h.wl;obtain ⟨ao,c,e1,hi,_,_⟩:=Qz n hn;have hgu:=TF;rcases TF.2 with ⟨_,h0⟩ | ⟨g,cap,cur,rfl,_,hg,hgn,hgm,hgs,hgt⟩
 ·omega
 have hcell:w.cell? ⟨g,n,none⟩=some (.slice ao (s.recs.getD n []).length c):=by
  have:=World.ownsRow.cellAt hgu n az;rw [this,<-e1];have hun:n<us.length:=az;simp [List.getD,hun]
 have Vl:w.cell? ⟨l,4,none⟩=some (.slice (some ⟨g,0,none⟩) s.recs.length cap):=rU;have hc3:w.cell? ⟨l,3,none⟩=some (.int .i64 1):=rU;have Wv:=af (λq=>oe (h.wl.below (w':=w.drewN q) ⟨rfl,rfl,rfl,ah _,λ_ _=>rfl⟩) hb);have HI:=af hi;have g1:decide ((n:Int)+1<1)=false:=bp az;have g2:decide (1+(s.recs.length:Int)<=(n:Int)+1)=false:=bp az;have q1:IntKind.i64.wrap (n:Int)=(n:Int):=IntWalk.i64_in _ az;have OP:(n:Int)<(s.recs.length:Int):=az;have P7:Hid (s.recs.getD n []=s.recs.getD n []):=af rfl;clear h h1 hu TF Qz hgu hg hgs hgt hgn hgm e1 hi QF P7;generalize s.recs.getD n []=rl at *;generalize s.recs.length=N at *;go_enter Tryz.func57,Tryz.ntmps57
 go_wp2_with fail
 refine U1.out.mono ?_;rintro e w1 ⟨rfl,q,rfl⟩;go_wp2_with fail
 refine (Wv.out q).mono ?_;rintro e w2 ⟨rfl,q2,rfl⟩;go_upto_region 5 with (fail)
 have Zx:Hid (Below w.heap.size w (w.drewN (q+q2))):=af ⟨rfl,rfl,rfl,ah _,λ_ _=>rfl⟩;have hk4:(w.drewN (q+q2)).cell? ⟨l,4,none⟩=some (.slice (some ⟨g,0,none⟩) N cap):=Vl;have hk3:(w.drewN (q+q2)).cell? ⟨l,3,none⟩=some (.int .i64 1):=hc3;have hkg:(w.drewN (q+q2)).cell? ⟨g,n,none⟩=some (.slice ao rl.length c):=hcell;have HI2:Hid (Pg (w.drewN (q+q2)) ao rl.length c rl):=af (HI.out.below Zx.out);clear Vl hc3 hcell HI;generalize (w.drewN (q+q2))=W at *;have hr4:∀w',Below W.heap.size W w'->w'.cell? ⟨l,4,none⟩=some (.slice (some ⟨g,0,none⟩) N cap):=λw' hb=>cell_later hb hk4;have hr3:∀w',Below W.heap.size W w'->w'.cell? ⟨l,3,none⟩=some (.int .i64 1):=λw' hb=>cell_later hb hk3;have hrg:∀w',Below W.heap.size W w'->w'.cell? ⟨g,n,none⟩=some (.slice ao rl.length c):=λw' hb=>cell_later hb hkg;have HI:Hid (∀w',Below W.heap.size W w'->Pg w' ao rl.length c rl):=af λw' hb=>HI2.out.below hb;clear hk4 hk3 hkg;refine wp_region_held_drew (S:=λw'=>Below W.heap.size W w') dW (bK W) (λaD=>?_);refine aJ 0 ?_;refine aJ 1 ?_;refine aJ 2 ?_;refine aJ 3 ?_;refine aJ 4 ?_;refine aJ 5 ?_;refine aJ 6 ?_;refine aJ 7 ?_;refine aJ 8 ?_;refine aJ 9 ?_;refine aJ 10 ?_;refine aJ 11 ?_;refine dh 12 λK hK=>?_;go_simp
 refine (F.dV ao rl.length c rl _ (HI.out _ (by exact bK W)) az).mono ?_;rintro e w5 ⟨v5,rfl,PS,PA⟩;have Q6:=af ((bK W).trans PA);have RJ:=af PS;have hh5:Below W.heap.size W w5:=(bK W).trans PA;clear PS PA;go_wp2_with fail
 refine hK.out _ _ hh5 (λaD=>?_);clear hK K;refine bX ?_;clear hh5;refine aJ 13 ?_;refine aJ 14 ?_;refine iX ?_;go_wp2_with fail
 go_ret2
 exact ⟨v5,rfl,RJ.out.mono (show w.heap.size<=W.drew.heap.size from Zx.out.size),Zx.out.trans (Q6.out.mono Zx.out.size)⟩
end
end Go.Proofs.YtnhefallmioefaaGreat
