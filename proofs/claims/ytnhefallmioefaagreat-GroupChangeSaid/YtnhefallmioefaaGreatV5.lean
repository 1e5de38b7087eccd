/-
  What the proof of the law leans on: contracts of the program's functions, one behind another. No condition.
-/
import Derived.Test.YtnhefallmioefaaGreatV0
import Derived.Test.YtnhefallmioefaaGreatRows
import Derived.Maps.Keyed
import Derived.DeepKeys4
import Derived.ChangeMaps5
import Derived.Deep.AppendLies
import Derived.Deep.RegionWith
import Derived.Deep.LoopGhost
import Derived.Carry
import Derived.Laws.Rows
import Derived.Laws.ResultCell
import Derived.BigQuiet
import Derived.Deep.QuietTactic
import Derived.BigRegion
import Derived.Deep.OwnRows
import Derived.Lib.AppendStr
import Derived.Test.YtnhefallmioefaaGreatV1
set_option linter.unusedVariables false
set_option linter.unusedSimpArgs false
namespace Go.Proofs.YtnhefallmioefaaGreat
set_option maxRecDepth 100000
open Go.RowKit Go.ChangeMaps Go.WideMaps Go.Maps
theorem sJ:laidOutB Tryz.prog=true:=by kernel_rfl
theorem yv:(122:TypeId)<Tryz.prog.types.size:=d8 (by kernel_rfl)
theorem sw:Tryz.prog.cellsOf 122=2:=by kernel_rfl
theorem CP:Tryz.prog.cellsOf 3=1:=by kernel_rfl
theorem Bq:Tryz.prog.keyType 122=true:=by kernel_rfl
theorem AE:(match Tryz.prog.underlying 122 with | some (.array _ _) | some (.struct _)=>true | _=>false)=true:=by rw [Tryz.underlying122]
theorem Cw:KeyLaw Tryz.prog 122:=deep_law_laid sJ (m:=2) (by omega) yv (by kernel_rfl) AE
theorem gS:Keyed Tryz.prog 122:=Keyed.of_law Cw
def jx (p:Int×Int):Value:=.agg #[.int .i64 p.1,.int .i64 p.2]
def Cf (p:Int×Int):Prop:=(-9223372036854775808<=p.1/\p.1<=9223372036854775807)/\(-9223372036854775808<=p.2/\p.2<=9223372036854775807)
theorem wQ {c0 c1:Value}:(Value.agg #[c0,c1]).formed Tryz.prog 122=true:=by simp [Value.formed,Tryz.underlying122,sw]
theorem tM (p:Int×Int) (h:Cf p):∃l,keyOf Tryz.prog 122 (jx p)=some l:=by
 have h1:(Lit.int .i64 p.1).wf=true:=by simp [Lit.wf,IntKind.min,IntKind.max,IntKind.bits,IntKind.signed];exact h.1
 have h2:(Lit.int .i64 p.2).wf=true:=by simp [Lit.wf,IntKind.min,IntKind.max,IntKind.bits,IntKind.signed];exact h.2
 obtain ⟨d,hd⟩:∃d,Tryz.prog.types.size=d+1:=⟨Tryz.prog.types.size - 1,by have:122<Tryz.prog.types.size:=yv;omega⟩
 have hk:Tryz.prog.keyLits (Tryz.prog.types.size+1) 122 [.int .i64 p.1,.int .i64 p.2]=some [.int .i64 p.1,.int .i64 p.2]:=by
  rw [hd];simp [Program.keyLits,Tryz.underlying122,Tryz.underlying3,sw,CP,h1,h2,dT]
 unfold keyOf;rw [Tryz.underlying122];simp only [Bq,jx,wQ,Bool.and_self,if_true];rw [show (Value.agg #[Value.int .i64 p.1,.int .i64 p.2]).cells.toList=[.int .i64 p.1,.int .i64 p.2] by simp [Value.cells],hk];exact ⟨_,rfl⟩
theorem rN {p q:Int×Int} (h:jx p=jx q):p=q:=by
 simp only [jx,Value.agg.injEq,Array.mk.injEq,List.cons.injEq,Value.int.injEq,true_and,and_true] at h;exact Prod.ext h.1 h.2
structure IsCut (w:World) (mb:Nat) (es:List ((Int×Int)×Bool)):Prop where
 map:∃arr c,w.heap[mb]? = some (.map arr c)/\arr.toList.map (λe=>(e.key,e.val))=es.map (λe=>(jx e.1,Value.bool e.2))
 wf:∀e∈es,Cf e.1
 nodup:(es.map (·.1)).Nodup
theorem IsCut.only {w w':World} {mb:Nat} {es:List ((Int×Int)×Bool)} (h:IsCut w mb es) {S:List Nat} (ho:Only S w w') (hs:mb∉S):IsCut w' mb es:=by
 obtain ⟨⟨arr,c,h1,h2⟩,h3,h4⟩:=h;exact ⟨⟨arr,c,ho.keeps h1 hs,h2⟩,h3,h4⟩
theorem IsCut.new (w:World):IsCut (w.alloc (.map #[] 0)) w.heap.size []:=⟨⟨#[],0,aK _ _,rfl⟩,by simp,by simp⟩
def li (es:List ((Int×Int)×Bool)) (p:Int×Int):Bool:=((es.find? λe=>e.1==p).map (·.2)).getD false
theorem IsCut.keys {w:World} {mb:Nat} {es:List ((Int×Int)×Bool)} (h:IsCut w mb es):∀arr c,w.heap[mb]? = some (.map arr c)->∀e∈arr.toList,∃l,keyOf Tryz.prog 122 e.key=some l:=by
 obtain ⟨⟨arr,c,h1,h2⟩,h3,_⟩:=h;intro arr' c' h1' e he;rw [h1] at h1';obtain ⟨rfl,rfl⟩:arr=arr'/\c=c':=by simpa using h1'
 have:(e.key,e.val)∈arr.toList.map (λe=>(e.key,e.val)):=List.mem_map_of_mem he;rw [h2] at this;obtain ⟨x,hx,hxe⟩:=cF.1 this;have hk:e.key=jx x.1:=by simp only [dC] at hxe;exact hxe.1.symm
 rw [hk];exact tM x.1 (h3 x hx)
theorem C1 (w:World):(zeroValue 4).run Tryz.prog w = .ok (.bool false) w:=by kernel_rfl
theorem AQ {w:World} {mb:Nat} {es:List ((Int×Int)×Bool)} (h:IsCut w mb es) (p:Int×Int) (hp:Cf p) :
  (Instr.lookup 63 (.map (some mb)) (jx p) false).run Tryz.prog w = .ok (.bool (li es p)) w:=by
 obtain ⟨arr,c,hb,hm⟩:=h.map;obtain ⟨kl,hkey⟩:=tM p hp;have ht:=Tryz.underlying63;rcases gS.find w hkey arr.toList (h.keys arr c hb) with ⟨h1,h2⟩ | ⟨j,e,h1,h2,h3⟩
 ·have hc:li es p=false:=by
   unfold li;rw [List.find?_eq_none.2 ?_];rfl;intro x hx hxp;have hxp:x.1=p:=by simpa using hxp
   have:(jx x.1,Value.bool x.2)∈arr.toList.map (λe=>(e.key,e.val)):=by rw [hm];exact cF.2 ⟨x,hx,rfl⟩
   obtain ⟨e,he,hee⟩:=cF.1 this;simp only [dC] at hee;exact h2 e he (by rw [hee.1,hxp])
  rw [hc];simp [Instr.lookup,run_underlying ht,MapKept.run_getObj_map hb,gS.check w _ hkey,h1,C1,Result.andThen]
 ·have hc:e.val = .bool (li es p):=by
   have hj:(arr.toList.map (λe=>(e.key,e.val)))[j]? = some (e.key,e.val):=by rw [hJ,h2];rfl
   rw [hm,hJ] at hj;obtain ⟨x,hx,hxe⟩:=Option.map_eq_some_iff.1 hj;simp only [dC] at hxe;have hxp:x.1=p:=rN (by rw [hxe.1,h3]);have hmem:x∈es:=fM hx;rw [<-hxe.2];unfold li;have:es.find? (λe=>e.1==p)=some x:=by
    cases hf:es.find? (λe=>e.1==p) with
    | none=>exact absurd (List.find?_eq_none.1 hf x hmem) (by simp [hxp])
    | some y =>
     have hy:y.1=p:=by simpa using List.find?_some hf
     have hym:=List.mem_of_find?_eq_some hf;congr 1;obtain ⟨i,hi,rfl⟩:=List.getElem_of_mem hym;obtain ⟨i2,hi2,rfl⟩:=List.getElem_of_mem hmem;have hnd:=h.nodup;rw [List.nodup_iff_pairwise_ne] at hnd;have:=(List.pairwise_iff_getElem.1 hnd)
     rcases Nat.lt_trichotomy i i2 with hlt | rfl | hlt
     ·exact absurd (by rw [xq,xq,hy,hxp]) (this i i2 (by simpa using hi) (by simpa using hi2) hlt)
     ·rfl
     ·exact absurd (by rw [xq,xq,hy,hxp]) (this i2 i (by simpa using hi2) (by simpa using hi) hlt)
   rw [this];rfl
  rw [<-hc];simp [Instr.lookup,run_underlying ht,MapKept.run_getObj_map hb,gS.check w _ hkey,h1,Result.andThen]
def dF:List ((Int×Int)×Bool)->(Int×Int)->Bool->List ((Int×Int)×Bool)
 | [],p,b=>[(p,b)]
 | e::es,p,b=>if e.1=p then (p,b)::es else e::dF es p b
theorem mc (es:List ((Int×Int)×Bool)) (p:Int×Int) (b:Bool):∀x∈dF es p b,x.1=p\/x∈es:=by
 induction es with
 | nil=>intro x hx;simp [dF] at hx;exact .inl (by rw [hx])
 | cons e es ih =>
  intro x hx;unfold dF at hx;split at hx
  ·rcases bg.1 hx with rfl | hx
   ·exact .inl rfl
   ·exact .inr (aU _ hx)
  ·rcases bg.1 hx with rfl | hx
   ·exact .inr (cz ..)
   ·rcases ih x hx with h | h
    ·exact .inl h
    ·exact .inr (aU _ h)
theorem kQ {es:List ((Int×Int)×Bool)} (h:(es.map (·.1)).Nodup) (p:Int×Int) (b:Bool):((dF es p b).map (·.1)).Nodup:=by
 induction es with
 | nil=>simp [dF]
 | cons e es ih =>
  simp only [dE,List.nodup_cons] at h;unfold dF;split
  ·rename_i he;simp only [dE,List.nodup_cons];rw [<-he];exact h
  ·rename_i he;simp only [dE,List.nodup_cons];refine ⟨λhm=>?_,ih h.2⟩;obtain ⟨x,hx,hxe⟩:=cF.1 hm;rcases mc es p b x hx with h1 | h1
   ·exact he (hxe.symm.trans h1)
   ·exact h.1 (cF.2 ⟨x,h1,hxe⟩)
theorem tt {es:List ((Int×Int)×Bool)} {p:Int×Int} (h:∀e∈es,e.1≠p) (b:Bool):dF es p b=es++[(p,b)]:=by
 induction es with
 | nil=>rfl
 | cons e es ih =>
  unfold dF;rw [aw (h e (cz ..)),ih (λx hx=>h x (aU _ hx))];rfl
theorem vJ {es:List ((Int×Int)×Bool)} {p:Int×Int} (hnd:(es.map (·.1)).Nodup) {j:Nat} {x:(Int×Int)×Bool} (hj:es[j]? = some x) (hx:x.1=p) (b:Bool):dF es p b=es.set j (p,b):=by
 induction es generalizing j with
 | nil=>simp at hj
 | cons e es ih =>
  simp only [dE,List.nodup_cons] at hnd;cases j with
  | zero =>
   simp at hj;subst hj;unfold dF;rw [aA hx];rfl
  | succ j =>
   simp at hj;have hm:x∈es:=fM hj;unfold dF;rw [aw (λhe=>hnd.1 (cF.2 ⟨x,hm,hx.trans he.symm⟩)),ih hnd.2 hj];rfl
theorem pQ {w:World} {mb:Nat} {es:List ((Int×Int)×Bool)} (h:IsCut w mb es) (p:Int×Int) (hp:Cf p) (b:Bool) :
  ∃w',(Instr.mapUpdate 63 (.map (some mb)) (jx p) (.bool b)).run Tryz.prog w = .ok () w'/\IsCut w' mb (dF es p b)/\Only [mb] w w':=by
 obtain ⟨arr,c,hb,hm⟩:=h.map;obtain ⟨kl,hkey⟩:=tM p hp;have ht:=Tryz.underlying63;have honly:∀o,Only [mb] w (setBlock w mb o):=λo=>⟨rfl,rfl,rfl,by simp [setBlock],λk _ hk=>heap_setBlock_other hb _ (by simpa using hk)⟩
 have hwf:∀e∈dF es p b,Cf e.1:=by
  intro e he;rcases mc es p b e he with h1 | h1
  ·rw [h1];exact hp
  ·exact h.wf e h1
 rcases gS.find w hkey arr.toList (h.keys arr c hb) with ⟨h1,h2⟩ | ⟨j,e,h1,h2,h3⟩
 ·refine ⟨setBlock w mb (.map (arr.push ⟨jx p,.bool b,c⟩) (c+1)),by simp [Instr.mapUpdate,run_underlying ht,MapKept.run_getObj_map hb,gS.check w _ hkey,h1,MapKept.run_setObj_map _ hb,Result.andThen,setBlock],⟨⟨_,_,heap_setBlock_same hb _,?_⟩,hwf,kQ h.nodup _ _⟩,honly _⟩;rw [tt ?_]
  ·simp [hm]
  ·intro x hx hxp;have:(jx x.1,Value.bool x.2)∈arr.toList.map (λe=>(e.key,e.val)):=by rw [hm];exact cF.2 ⟨x,hx,rfl⟩
   obtain ⟨e,he,hee⟩:=cF.1 this;simp only [dC] at hee;exact h2 e he (by rw [hee.1,hxp])
 ·have hj:arr[j]? = some e:=by simpa using h2
  refine ⟨setBlock w mb (.map (arr.modify j λe'=>{ e' with key:=jx p,val:=.bool b }) c),by simp [Instr.mapUpdate,run_underlying ht,MapKept.run_getObj_map hb,gS.check w _ hkey,h1,hj,h3,gS.stays w hkey,MapKept.run_setObj_map _ hb,Result.andThen,setBlock],⟨⟨_,_,heap_setBlock_same hb _,?_⟩,hwf,kQ h.nodup _ _⟩,honly _⟩;have hj2:(arr.toList.map (λe=>(e.key,e.val)))[j]? = some (e.key,e.val):=by rw [hJ,h2];rfl
  rw [hm,hJ] at hj2;obtain ⟨x,hx,hxe⟩:=Option.map_eq_some_iff.1 hj2;simp only [dC] at hxe;have hxp:x.1=p:=rN (by rw [hxe.1,h3]);rw [vJ h.nodup hx hxp];have hl:(arr.modify j λe'=>{ e' with key:=jx p,val:=.bool b }).toList=arr.toList.set j { e with key:=jx p,val:=.bool b }:=by
   refine List.ext_getElem? λi=>?_;rw [Array.toList_modify,List.getElem?_modify,hC];by_cases hij:j=i
   ·subst hij;have:j<arr.toList.length:=(jh.1 h2).1;rw [h2];simp [this];simpa using this
   ·simp [hij]
  rw [hl,List.map_set,List.map_set,hm]
set_option maxRecDepth 20000
def de (n room:Int) (qv:Value) (mb:Nat):Obj:=.cells #[.int .i64 n,.int .i64 room,qv,.map (some mb)] 66 (0,0)
section
variable {w:World} {nb mb:Nat} {n room:Int} {ao:Option Addr} {k cp:Nat}
set_option maxHeartbeats 400000 in
theorem kU (h:w.heap[nb]? = some (de n room (.slice ao k cp) mb)) (x:Int) :
  Calls Tryz.prog 76 #[.pointer (some ⟨nb,0,none⟩),.int .i64 x] w λe w'=>e = .returned (.bool (decide (0<=x)&&decide (x<n)))/\w=w':=by
 have hc0:w.cell? ⟨nb,0,none⟩=some (.int .i64 n):=by rw [af h];rfl
 clear h;by_cases hx:0<=x
 ·rw [aJ hx,mC];go_enter Tryz.func76,Tryz.ntmps76
  go_wp2_with fail
  go_ret
  exact ⟨rfl,rfl⟩
 ·have hd:decide (0<=x)=false:=aW hx;rw [hd,C0];clear hx;go_enter Tryz.func76,Tryz.ntmps76
  go_wp2_with fail
  go_ret
  exact ⟨rfl,rfl⟩
set_option maxHeartbeats 400000 in
theorem iA (h:w.heap[nb]? = some (de n room (.slice ao k cp) mb)) (x:Int) :
  Calls Tryz.prog 41 #[.pointer (some ⟨nb,0,none⟩),.int .i64 x] w λe w'=>e = .returned (.bool (decide (0<=x)&&decide (x<(k:Int))))/\w=w':=by
 have hc0:w.cell? ⟨nb,2,none⟩=some (.slice ao k cp):=by rw [af h];rfl
 clear h;by_cases hx:0<=x
 ·rw [aJ hx,mC];go_enter Tryz.func41,Tryz.ntmps41
  go_wp2_with fail
  go_ret
  exact ⟨rfl,rfl⟩
 ·have hd:decide (0<=x)=false:=aW hx;rw [hd,C0];clear hx;go_enter Tryz.func41,Tryz.ntmps41
  go_wp2_with fail
  go_ret
  exact ⟨rfl,rfl⟩
set_option maxHeartbeats 400000 in
theorem yQ (h:w.heap[nb]? = some (de n room (.slice ao k cp) mb)) :
  Calls Tryz.prog 32 #[.pointer (some ⟨nb,0,none⟩)] w λe w'=>e = .returned (.int .i64 (k:Int))/\w=w':=by
 have hc0:w.cell? ⟨nb,2,none⟩=some (.slice ao k cp):=by rw [af h];rfl
 clear h;go_enter Tryz.func32,Tryz.ntmps32
 go_wp2_with fail
 go_ret
 exact ⟨rfl,rfl⟩
end
def lu (x y:Int):Int×Int:=(if y<x then y else x,if x<y then y else x)
theorem pI:(Tryz.prog.info? 122).map (·.size)=some 2:=by kernel_rfl
set_option maxHeartbeats 400000 in
theorem pG (x y:Int) (w:World):Calls Tryz.prog 77 #[.int .i64 x,.int .i64 y] w λe w'=>e = .returned (jx (lu x y))/\Below w.heap.size w w':=by
 go_enter Tryz.func77,Tryz.ntmps77
 rcases Int.lt_trichotomy y x with hx | rfl | hx
 ·have e:lu x y=(y,x):=by unfold lu;rw [aA hx,aw (by omega)]
  have m1:min x y=y:=by omega
  have m2:max x y=x:=by omega
  rw [e];go_wp2_with fail
  (try simp only [Exit.inBlock,Exit.then])
  (try simp only [m1,m2])
  all_goals first | omega | (refine bodyPost_ret (results_cell_row (P:=Tryz.prog) (fn:=Tryz.f77) rfl _ _ w.heap.size 122 _ _ _ rfl (aK _ _) Tryz.underlying122 rfl pI) rfl ⟨rfl,(az _ _).alloc (ah _) _⟩)
 ·have e:lu y y=(y,y):=by unfold lu;rw [aw (by omega)]
  have m1:min y y=y:=by omega
  have m2:max y y=y:=by omega
  rw [e];go_wp2_with fail
  (try simp only [Exit.inBlock,Exit.then])
  (try simp only [m1,m2])
  all_goals first | omega | (refine bodyPost_ret (results_cell_row (P:=Tryz.prog) (fn:=Tryz.f77) rfl _ _ w.heap.size 122 _ _ _ rfl (aK _ _) Tryz.underlying122 rfl pI) rfl ⟨rfl,(az _ _).alloc (ah _) _⟩)
 ·have e:lu x y=(x,y):=by unfold lu;rw [aw (by omega),aA hx]
  have m1:min x y=x:=by omega
  have m2:max x y=y:=by omega
  rw [e];go_wp2_with fail
  (try simp only [Exit.inBlock,Exit.then])
  (try simp only [m1,m2])
  all_goals first | omega | (refine bodyPost_ret (results_cell_row (P:=Tryz.prog) (fn:=Tryz.f77) rfl _ _ w.heap.size 122 _ _ _ rfl (aK _ _) Tryz.underlying122 rfl pI) rfl ⟨rfl,(az _ _).alloc (ah _) _⟩)
set_option maxHeartbeats 400000 in
theorem yP (n room:Int) (w:World) (h1:1<=n) (h2:n<=64) (h3:1<=room) (h4:room<=65536) :
  Calls Tryz.prog 16 #[.int .i64 n,.int .i64 room] w λe w'=>e = .returned (.tuple #[.pointer (some ⟨w.heap.size+1,0,none⟩),.int .i64 0])/\w'.heap[w.heap.size+1]? = some (de n room (.slice none 0 0) w.heap.size)/\IsCut w' w.heap.size []/\Below w.heap.size w w'/\w'.heap.size=w.heap.size+2:=by
 have hmm:=@run_makeMap Tryz.prog;go_enter Tryz.func16,Tryz.ntmps16
 go_wp2_with fail
 go_ret2
 refine ⟨by simp,?_,?_,((az _ _).alloc (ah _) _).alloc (by simp) _,by simp⟩
 ·have:=aK (w.alloc (.map #[] 0)) (.cells #[.int .i64 n,.int .i64 room,.slice none 0 0,.map (some w.heap.size)] 66);simpa [de] using this
 ·exact (IsCut.new w).only ((Only.refl [] _).alloc _) (by simp)
theorem iI:(Tryz.prog.info? 5).map (λi=>(i.zero,i.size,i.bytes))=some (some (.int .u8 0),1,1):=by kernel_rfl
def fi (z:Int) (i:Nat):UInt8:=UInt8.ofNat ((BitVec.ofInt 64 z).toNat / 2 ^ (8*(7 - i)))
def fy (z:Int):List UInt8:=[fi z 0,fi z 1,fi z 2,fi z 3,fi z 4,fi z 5,fi z 6,fi z 7]
theorem xa (z:Int) (k:Nat):IntKind.u64.wrap z / 2 ^ (8*(7 - k)) % 256=((fi z k).toNat:Int):=by
 have h1:IntKind.u64.wrap z=((BitVec.ofInt 64 z).toNat:Int):=by
  have h0:((BitVec.ofInt 64 z).toNat:Int)=z % 18446744073709551616:=by
   rw [BitVec.toNat_ofInt];have:(0:Int)<=z % ((2 ^ 64:Nat):Int):=Int.emod_nonneg _ (by decide);rw [Int.toNat_of_nonneg this];rfl
  rw [h0];simp [IntKind.wrap,IntKind.bits,IntKind.signed]
 rw [h1];unfold fi;generalize (BitVec.ofInt 64 z).toNat=m;rw [Dz];generalize 8*(7 - k)=e;have:((2:Int) ^ e)=((2 ^ e:Nat):Int):=by rw [Int.natCast_pow];rfl
 rw [this];generalize (2:Nat) ^ e=q;rw [Int.natCast_emod,Int.natCast_ediv];rfl
theorem t9 (z:Int) (k:Nat):#[Value.int .u8 (IntKind.u64.wrap z / 2 ^ (8*(7 - k)) % 256)]=([fi z k].map bv).toArray:=by
 rw [xa];rfl
theorem eZ (z:Int):(fy z).length=8:=rfl
theorem Ad (z:Int) (k:Nat) (h:k<8):(fy z).take (k+1)=(fy z).take k++[fi z k]:=by
 rcases k with _ | _ | _ | _ | _ | _ | _ | _ | k
 all_goals first | rfl | omega
set_option maxHeartbeats 400000 in
theorem uM (ao:Option Addr) (n c:Nat) (l:List UInt8) (z:Int) (w:World) (h:IsB w ao n c l) (hn:n<=70368744177664) :
  Calls Tryz.prog 108 #[.slice ao n c,.int .i64 z] w λe w'=>∃v,e = .returned v/\OwnB w' w.heap.size 5 v (l++fy z)/\Below w.heap.size w w':=by
 have hlen:=h.len;have hb1:([]:List UInt8).length+n<=140737488355328:=by simp;omega
 have HB:=ab h;clear h;go_enter Tryz.func108,Tryz.ntmps108
 go_wp2_with (at_builtin;refine cJ rfl _ _ 31 rfl w.heap.size 5 Tryz.underlying31 iI _ [] rfl (OwnB.new _ _ _ [] _ rfl _ rfl (by exact ah _) 0 rfl (by decide)) _ _ _ _ rfl (HB.out.alloc _) hb1 (by simp) ?_;intro v' w2 hown' hgr hb2)
 have hb3:Below w.heap.size w w2:=((az _ _).alloc (ah _) _).trans hb2;rw [cL] at hown';clear hgr hb2 HB;have HL:=ab hlen;clear hlen;go_loopw [5,6] (λv i wr=>∃k:Nat,k<=8/\i = .int .i64 (7 - (k:Int))/\OwnB wr w.heap.size 5 v (l++(fy z).take k)/\Below w.heap.size w wr) (λ_ i _=>(intOf i+1).toNat)
 case atStart=>exact ⟨0,by omega,rfl,by simpa using hown',hb3⟩
 case round =>
  obtain ⟨k,hk,rfl,hown,hbl⟩:=hrel;by_cases hlt:k<8
  ·have hc1:(l++(fy z).take k).length+1<=140737488355328:=by
    have:=HL.out;rw [ay,aI];omega
   have hc2:=hbl.size;go_wp2_with (at_builtin;refine cJ rfl _ _ 31 rfl w.heap.size 5 Tryz.underlying31 iI _ _ rfl (hown.alloc _) _ _ _ [fi z k] rfl (qe _ [fi z k] _ (t9 z k) _ _ _ rfl 1 rfl _) hc1 (by simp;omega) ?_;intro v3 w3 hown3 hgr3 hb4;clear hown)
   go_roundw
   case rel=>exact ⟨k+1,by omega,by go_num,by rw [Ad z k hlt,<-bD];exact hown3,(hbl.alloc hc2 _).trans hb4⟩
   case measure=>simp [intOf];omega
  ·go_wp2
   go_ret
   obtain rfl:k=8:=by omega
   exact ⟨_,rfl,by simpa [aZ,fy] using hown,hbl⟩
theorem j9 {P:Program} {w:World} {ops:Array Oper} {rest:List Oper} {o:Oper} {a:Act} {Q:Exit->Act->World->Prop} (hgd:o.guard=none) (sl x:Operand) (t u:TypeId)
  (ho:o.op = .call { callee:=.builtin .append,args:=#[sl,x],argTypes:=#[t,u]})
  (base:Nat) (e:TypeId) (ht:P.underlying t=some (.slice e)) (hu:P.underlying u=some .string) (hi:(P.info? e).map (λi=>(i.zero,i.size,i.bytes))=some (some (.int .u8 0),1,1))
  (v:Value) (l:List UInt8) (hs:a.eval sl=v) (hown:OwnB w base e v l) (s:ByteArray) (hx:a.eval x = .string s)
  (hbytes:l.length+s.size<=140737488355328) (hbase:base<=w.heap.size)
  (h:∀v' w',OwnB w' base e v' (l++s.data.toList)->w.grownBy w' v.ownBlock->Below base w w'->wpList P ops Q rest (a.put o.dst v') w'):wpList P ops Q (o::rest) a w:=by
 obtain ⟨i0,hi0,hz0,hz1,hz2⟩:=info_parts hi;have hb:∀w',w.grownBy w' v.ownBlock->Below base w w':=λw' hg=>(az base w).grown hg hbase (λk hk=>(hown.lt k hk).1);refine Lib.wpList_append_own_string w hgd sl x t u ho base e i0 ht hu hi0 hz0 hz1 hz2 v _ _ hs hown s hx (by unfold maxLen;omega) hbytes hbase ?_;intro v' w' g1 g2 _;refine h v' w' ?_ g2 (hb w' g2);unfold OwnB;rw [ay,bS];exact g1
def xn (s:ByteArray):List UInt8:=fy (s.size:Int)++s.data.toList
theorem oQ (s:ByteArray):s.data.toList.length=s.size:=rfl
set_option maxHeartbeats 400000 in
theorem qL (ao:Option Addr) (n c:Nat) (l:List UInt8) (s:ByteArray) (w:World) (h:IsB w ao n c l) (hn:n<=1099511627776) (hs:s.size<=1099511627776) :
  Calls Tryz.prog 110 #[.slice ao n c,.string s] w λe w'=>∃v,e = .returned v/\OwnB w' w.heap.size 5 v (l++xn s)/\Below w.heap.size w w':=by
 have hlen:=h.len;go_enter Tryz.func110,Tryz.ntmps110
 go_wp2_with fail
 refine (uM ao n c l _ w h (by omega)).mono ?_;rintro e w1 ⟨v,rfl,hown,hb⟩;have hl:(l++fy (s.size:Int)).length+s.size<=140737488355328:=by rw [ay,eZ];omega
 have hz:=hb.size;clear h hlen;go_wp2_with (at_builtin;refine j9 rfl _ _ 31 9 rfl w.heap.size 5 Tryz.underlying31 Tryz.underlying9 iI _ _ rfl hown _ rfl hl hz ?_;intro v3 w3 hown3 hgr3 hb4;clear hown)
 go_ret
 exact ⟨_,rfl,by simpa [xn,bD] using hown3,hb.trans hb4⟩
def jg (zs:List Int):List UInt8:=zs.flatMap fy
theorem jH (zs:List Int):(jg zs).length=8*zs.length:=by
 induction zs with
 | nil=>rfl
 | cons z zs ih=>simp only [jg,kG,ay,eZ,aY] at ih ⊢;omega
theorem vq (l:List Int) (k:Nat) (h:k<l.length):l.take (k+1)=l.take k++[l.getD k 0]:=by
 rw [dl h];simp [h]
theorem xb (zs:List Int) (k:Nat) (h:k<zs.length):jg (zs.take (k+1))=jg (zs.take k)++fy (zs.getD k 0):=by
 rw [vq zs k h];simp [jg]
set_option maxHeartbeats 400000 in
theorem jt (ao:Option Addr) (n c:Nat) (l:List UInt8) (ai:Option Addr) (m ci:Nat) (zs:List Int) (w:World) (h:IsB w ao n c l) (hi:IsI w ai m ci zs) (hn:n<=1099511627776) (hm:m<=1099511627776) :
  Calls Tryz.prog 94 #[.slice ao n c,.slice ai m ci] w λe w'=>∃v,e = .returned v/\OwnB w' w.heap.size 5 v (l++jg zs)/\Below w.heap.size w w':=by
 have hlen:=h.len;have hb1:([]:List UInt8).length+n<=140737488355328:=by simp;omega
 have HB:=ab h;clear h;have HI:=ab hi;clear hi;go_enter Tryz.func94,Tryz.ntmps94
 go_wp2_with (at_builtin;refine cJ rfl _ _ 31 rfl w.heap.size 5 Tryz.underlying31 iI _ [] rfl (OwnB.new _ _ _ [] _ rfl _ rfl (by exact ah _) 0 rfl (by decide)) _ _ _ _ rfl (HB.out.alloc _) hb1 (by simp) ?_;intro v' w2 hown' hgr hb2)
 have hb3:Below w.heap.size w w2:=((az _ _).alloc (ah _) _).trans hb2;rw [cL] at hown';clear hgr hb2 HB;have HL:=ab hlen;clear hlen;go_loopw [5,13] (λv i wr=>∃k:Nat,k<=m/\i = .int .i64 (k:Int)/\OwnB wr w.heap.size 5 v (l++jg (zs.take k))/\Below w.heap.size w wr) (λ_ i _=>m - (intOf i).toNat)
 case atStart=>exact ⟨0,by omega,rfl,by simpa [jg] using hown',hb3⟩
 case round =>
  obtain ⟨k,hk,rfl,hown,hbl⟩:=hrel;have hzl:=HI.out.len;by_cases hlt:k<m
  ·obtain ⟨ag,rfl⟩:∃ag:Nat×Nat,ai=some ⟨ag.1,ag.2,none⟩:=by
    rcases HI.out.at_ with h0 | ⟨b,off,h1,h2⟩
    ·omega
    ·exact ⟨(b,off),h1⟩
   have hcell:wr.cell? ⟨ag.1,ag.2+k,none⟩=some (.int .i64 (zs.getD k 0)):=by
    rcases HI.out.at_ with h0 | ⟨b,off,h1,h2⟩
    ·omega
    ·have:=cell_later hbl (h2 k hlt);cases h1;exact this
   have htk:=xb zs k (by omega);generalize zs.getD k 0=z at hcell htk;have HT:=ab htk;clear htk;have hc2:=hbl.size;obtain ⟨a1,c1,rfl,hb1⟩:=hown.isB;have hll:(l++jg (zs.take k)).length<=70368744177664:=by
    have:=HL.out;rw [ay,jH,aI];omega
   generalize (l++jg (zs.take k)).length=nn at hown hb1 hll;have HW:=ab hown;clear hown;have HB1:=ab hb1;clear hb1 hzl;go_wp2_with fail
   refine (uM _ _ _ _ _ _ HB1.out hll).mono ?_;rintro e w3 ⟨v3,rfl,hown3,hb3⟩;go_wp2_with fail
   go_roundw
   case rel=>exact ⟨k+1,by omega,by go_num,by rw [HT.out,<-bD];exact hown3.mono hc2,hbl.trans (hb3.mono hc2)⟩
   case measure=>simp [intOf];omega
  ·go_wp2
   go_ret
   obtain rfl:k=m:=by omega
   rw [aZ (by omega)] at hown;exact ⟨_,rfl,hown,hbl⟩
structure IsR (w:World) (a:Nat) (T:Nat->Prop) (l:List UInt8) (bad:Bool):Prop where
 row:∃ao n c,w.heap[a]? = some (.cells #[.slice ao n c,.bool bad] 134 (0,0))/\IsB w ao n c l/\n<=c/\(∀p,ao=some p->T p.block)
 ne:¬T a
variable {T:Nat->Prop}
theorem zy {w w':World} {ao:Option Addr} {n c a:Nat} {l:List UInt8} (h:IsB w ao n c l) (ho:Only [a] w w') (hne:∀p,ao=some p->p.block≠a):IsB w' ao n c l:=by
 obtain ⟨h1,h2,h3⟩:=h;refine ⟨h1,h2,?_⟩;rcases h3 with h3 | ⟨b,off,h4,h5⟩
 ·exact .inl h3
 ·exact .inr ⟨b,off,h4,λi hi=>ho.cell (h5 i hi) (by simpa using hne _ h4)⟩
theorem zB {w:World} {b off:Nat} (c:Nat):IsB w (some ⟨b,off,none⟩) 0 c []:=⟨rfl,(λe=>by cases e),.inl rfl⟩
theorem kZ {w:World} {a:Nat} {x:Value} {bad:Bool} (h1:w.heap[a]? = some (.cells #[x,.bool bad] 134 (0,0))) {ao:Option Addr} {n c:Nat} {l:List UInt8} (h2:IsB w ao n c l) (h3:n<=c) (h4:∀p,ao=some p->T p.block) (hne:¬T a) :
  IsR (w.setCell ⟨a,0,none⟩ (.slice ao n c)) a T l bad:=by
 have ho:Only [a] w (w.setCell ⟨a,0,none⟩ (.slice ao n c)):=(Only.refl [a] w).setCell (by simp) _;exact ⟨⟨ao,n,c,aR h1 0 _,zy h2 ho (λp hp e=>hne (e ▸ h4 p hp)),h3,h4⟩,hne⟩
set_option maxHeartbeats 400000 in
theorem jN (a:Nat) (l:List UInt8) (bad:Bool) (w:World) (h:IsR w a T l bad) :
  Calls Tryz.prog 100 #[.pointer (some ⟨a,0,none⟩)] w λe w'=>e = .returned (.tuple #[])/\IsR w' a T [] true/\Only [a] w w':=by
 obtain ⟨⟨ao,n,c,h1,h2,h3,h4⟩,hne⟩:=h;have hc0:w.cell? ⟨a,0,none⟩=some (.slice ao n c):=by rw [af h1];rfl
 have hc1:w.cell? ⟨a,1,none⟩=some (.bool bad):=by rw [af h1];rfl
 have hf0:=aM h1 0;have hf1:=aM h1 1;have HR:=ab h1;clear h1 h2 h4;go_enter Tryz.func100,Tryz.ntmps100
 go_wp2_with fail
 go_end0
 refine ⟨rfl,⟨⟨none,0,0,?_,fV _,ah _,by simp⟩,hne⟩,?_⟩
 ·exact aR (aR HR.out 0 _) 1 _
 ·exact ((Only.refl [a] w).setCell (by simp) _).setCell (by simp) _
def fp (l:List UInt8):ByteArray:=⟨l.toArray⟩
theorem iM (w:World) (ao:Option Addr) (n c:Nat) (l:List UInt8) (h:IsB w ao n c l):(convert 31 9 (.slice ao n c)).run Tryz.prog w = .ok (.string (fp l)) w:=by
 obtain ⟨h1,h2,h3⟩:=h;cases ao with
 | none =>
  obtain ⟨rfl,rfl⟩:=h2 rfl;obtain rfl:=br.1 h1;rw [run_convert_bytes_nil w 31 5 Tryz.underlying31 Tryz.underlying5 0 0 9 Tryz.underlying9];rfl
 | some p =>
  rcases h3 with h3 | ⟨b,off,h4,h5⟩
  ·subst h3;obtain rfl:=br.1 h1;rw [run_convert_bytes_string w 31 9 5 _ 0 c Tryz.underlying31 Tryz.underlying5 Tryz.underlying9,run_bytesToString w p 0 c [] (run_loadCells_list w p [] (by simp))];rfl
  ·cases h4;rw [run_convert_bytes_arg w 31 5 Tryz.underlying31 Tryz.underlying5 b off n c (l.map λx=>(x.toNat:Int)) (by simpa using h1) (λi hi=>by rw [h5 i hi];simp [h1,hi]) 9 Tryz.underlying9];simp only [strOfNums,fp,pB];congr 4;rw [Dn (g:=id)]
   ·simp
   ·intro x _;simp
def oW (v:Nat) (x:UInt8):Nat:=v*256+x.toNat
def oG (l:List UInt8):Nat:=l.foldl oW 0
theorem Av (l:List UInt8) (x:UInt8):oG (l++[x])=oG l*256+x.toNat:=by simp [oG,oW]
theorem BX (l:List UInt8):oG l<256 ^ l.length:=by
 have key:∀(l:List UInt8) (v n:Nat),v<256 ^ n->l.foldl oW v<256 ^ (n+l.length):=by
  intro l;induction l with
  | nil=>intro v n h;exact h
  | cons x l ih =>
   intro v n h;have hx:=x.toNat_lt;have:=ih (oW v x) (n+1) (by unfold oW;rw [Nat.pow_succ];omega);rw [aY,show n+(l.length+1)=n+1+l.length by omega];exact this
 have:=key l 0 0 (by simp)
 rwa [cy] at this
theorem Aw (l:List UInt8) (h:l.length<8):oG l<72057594037927936:=aE (BX l) (aD (Nat.pow_le_pow_right (by decide) (show l.length<=7 by omega)) (by decide))
def ou (l:List UInt8):Int:=wrap64 (oG (l.take 8):Int)
theorem jl (v:Nat) (h:v<18446744073709551616):IntKind.u64.wrap (v:Int)=(v:Int):=by
 have:IntKind.u64.wrap (v:Int)=(v:Int) % 18446744073709551616:=by simp [IntKind.wrap,IntKind.bits,IntKind.signed]
 rw [this];omega
theorem vy (v:Nat) (x:UInt8) (h:v<72057594037927936):bits .or .u64 (IntKind.u64.wrap ((v:Int)*256)) (IntKind.u64.wrap (x.toNat:Int))=((v*256+x.toNat:Nat):Int):=by
 have hx:=x.toNat_lt;have e:(v:Int)*256=((v*256:Nat):Int):=by rw [Int.natCast_mul];rfl
 rw [e,jl _ (by omega),jl _ (by omega),u64_or_nat _ _ (by omega) (by omega)];have e2:=Nat.shiftLeft_add_eq_or_of_lt (i:=8) (b:=x.toNat) (by omega) v;rw [Nat.shiftLeft_eq,show 2 ^ 8=256 from rfl] at e2;rw [<-e2]
theorem mQ (l:List UInt8) (k:Nat) (h:k<l.length):l.take (k+1)=l.take k++[l.getD k 0]:=by
 rw [dl h];simp [h]
theorem Cg {a b:Int} (h:a=b):Value.int .u64 a=Value.int .u64 b:=by rw [h]
theorem ur {a b:Int} (h:a=b):Ending.returned (Value.int .i64 a) = .returned (Value.int .i64 b):=by rw [h]
set_option maxHeartbeats 400000 in
theorem uV (a:Nat) (l:List UInt8) (bad:Bool) (w:World) (h:IsR w a T l bad) :
  Calls Tryz.prog 83 #[.pointer (some ⟨a,0,none⟩)] w λe w'=>e = .returned (.bool (!bad&&l.isEmpty))/\w=w':=by
 obtain ⟨⟨ao,n,c,h1,h2,h3,h4⟩,hne⟩:=h;have hc0:w.cell? ⟨a,0,none⟩=some (.slice ao n c):=by rw [af h1];rfl
 have hc1:w.cell? ⟨a,1,none⟩=some (.bool bad):=by rw [af h1];rfl
 have he:l.isEmpty=((n:Int)==0):=by
  have:=h2.len;subst this;cases l with
  | nil=>rfl
  | cons x l =>
   rw [aY];have:¬(((l.length+1:Nat):Int)=0):=by omega
   simp only [List.isEmpty_cons];exact (bX.2 this).symm
 rw [he];clear h1 h2 h4 he;cases bad;all_goals
  go_enter Tryz.func83,Tryz.ntmps83
  go_wp2
  go_ret
  exact ⟨rfl,rfl⟩
set_option maxHeartbeats 400000 in
theorem tp (a:Nat) (l:List UInt8) (bad:Bool) (w:World) (h:IsR w a T l bad) (hl:l.length<8) :
  Calls Tryz.prog 82 #[.pointer (some ⟨a,0,none⟩)] w λe w'=>e = .returned (.int .i64 0)/\IsR w' a T [] true/\Only [a] w w':=by
 have h':=h;obtain ⟨⟨ao,n,c,h1,h2,h3,h4⟩,hne⟩:=h;have hc0:w.cell? ⟨a,0,none⟩=some (.slice ao n c):=by rw [af h1];rfl
 have hn:n<8:=by have:=h2.len;omega
 clear h1 h2 h4 hl;have HR:=ab h';clear h';go_enter Tryz.func82,Tryz.ntmps82
 go_wp2_with fail
 refine (jN a l bad _ HR.out).mono ?_;rintro e w1 ⟨rfl,hr,ho⟩;go_wp2
 go_ret
 exact ⟨rfl,hr,ho⟩
set_option maxHeartbeats 400000 in
theorem tj (a:Nat) (l:List UInt8) (bad:Bool) (w:World) (h:IsR w a T l bad) (hl:8<=l.length) (hm:l.length<=140737488355328) :
  Calls Tryz.prog 82 #[.pointer (some ⟨a,0,none⟩)] w λe w'=>e = .returned (.int .i64 (ou l))/\IsR w' a T (l.drop 8) bad/\Only [a] w w':=by
 obtain ⟨⟨ao,n,c,h1,h2,h3,h4⟩,hne⟩:=h;have hc0:w.cell? ⟨a,0,none⟩=some (.slice ao n c):=by rw [af h1];rfl
 have hf0:=aM h1 0;have hlen:=h2.len;obtain ⟨b,off,rfl,hcb⟩:∃b off,ao=some ⟨b,off,none⟩/\∀i,i<n->w.cell? ⟨b,off+i,none⟩=some (.int .u8 ((l.getD i 0).toNat:Int)):=by
  rcases h2.at_ with h0 | h0
  ·omega
  ·exact h0
 have hn8:8<=n:=by omega
 have hn9:n<=140737488355328:=by omega
 have hc8:8<=c:=by omega
 have HL:=ab hlen;have HR:=ab h1;have HB:=ab h2;have HC:=ab hcb;have hba:T b:=h4 _ rfl;clear h1 h2 h4 hlen hl hm hcb;go_enter Tryz.func82,Tryz.ntmps82
 go_wp2_with fail
 go_loop [3,20] (λv i=>∃k:Nat,k<=8/\i = .int .i64 (k:Int)/\v = .int .u64 ((oG (l.take k):Nat):Int)) (λ_ i=>8 - (intOf i).toNat)
 case atStart=>exact ⟨0,by omega,rfl,rfl⟩
 case round =>
  obtain ⟨k,hk,rfl,rfl⟩:=hrel;by_cases hlt:k<8
  ·have hcell:=HC.out k (by omega);have hone:=mQ l k (by rw [HL.out];omega);have hlt8:=Aw (l.take k) (by rw [aI];omega);generalize l.getD k 0=x at hcell hone;have HO:=ab hone;clear hone;have HV:=ab hlt8;clear hlt8;go_wp2_with fail
   go_round
   case rel=>exact ⟨k+1,by omega,by go_num,Cg (by rw [vy _ _ HV.out,HO.out,Av])⟩
   case measure=>simp [intOf];omega
  ·obtain rfl:k=8:=by omega
   generalize hv:oG (l.take 8)=v;have HV:=ab hv;clear hv;by_cases hcc:c=8
   ·subst hcc;obtain rfl:n=8:=by omega
    go_wp2_with fail
    go_ret
    refine ⟨ur (by unfold ou;rw [HV.out]),?_,(Only.refl [a] w).setCell (by simp) _⟩;rw [Az (by rw [HL.out];exact ah _)];exact kZ HR.out (zB 0) (ah _) (λp hp=>by cases hp;exact hba) hne
   ·have hcx:¬(8=c):=by omega
    go_wp2_with fail
    go_ret
    refine ⟨ur (by unfold ou;rw [HV.out]),?_,(Only.refl [a] w).setCell (by simp) _⟩;exact kZ HR.out (jy HB.out 8 _ hn8) (by omega) (λp hp=>by cases hp;exact hba) hne
structure Rd (α:Type) where
 v:α
 l:List UInt8
 bad:Bool
def rI (l:List UInt8) (bad:Bool):Rd Int:=if l.length<8 then ⟨0,[],true⟩ else ⟨ou l,l.drop 8,bad⟩
def rC (l:List UInt8) (bad:Bool) (cZ:Int):Rd Int:=if (rI l bad).v<0\/cZ<(rI l bad).v then ⟨0,[],true⟩ else rI l bad
def rT (l:List UInt8) (bad:Bool) (cZ:Int):Rd ByteArray :=
 if ((rC l bad cZ).l.length:Int)<(rC l bad cZ).v then ⟨⟨#[]⟩,[],true⟩
 else ⟨fp ((rC l bad cZ).l.take (rC l bad cZ).v.toNat),(rC l bad cZ).l.drop (rC l bad cZ).v.toNat,(rC l bad cZ).bad⟩
theorem Ck (l:List UInt8) (bad:Bool):(rI l bad).l.length<=l.length:=by
 unfold rI;split
 ·simp
 ·simp
theorem Cm (l:List UInt8) (bad:Bool) (cZ:Int):(rC l bad cZ).l.length<=l.length:=by
 unfold rC;split
 ·simp
 ·exact Ck l bad
theorem Cl (l:List UInt8) (bad:Bool) (cZ:Int):0<=(rC l bad cZ).v:=by
 unfold rC;split
 ·simp
 ·omega
theorem gc (a:Nat) (l:List UInt8) (bad:Bool) (w:World) (h:IsR w a T l bad) (hm:l.length<=140737488355328) :
  Calls Tryz.prog 82 #[.pointer (some ⟨a,0,none⟩)] w λe w'=>e = .returned (.int .i64 (rI l bad).v)/\IsR w' a T (rI l bad).l (rI l bad).bad/\Only [a] w w':=by
 unfold rI;by_cases hl:l.length<8
 ·rw [aA hl];exact tp a l bad w h hl
 ·rw [aw hl];exact tj a l bad w h (by omega) hm
set_option maxHeartbeats 400000 in
theorem qV (a:Nat) (l:List UInt8) (bad:Bool) (cZ:Int) (w:World) (h:IsR w a T l bad) (hm:l.length<=140737488355328) :
  Calls Tryz.prog 106 #[.pointer (some ⟨a,0,none⟩),.int .i64 cZ] w λe w'=>e = .returned (.int .i64 (rC l bad cZ).v)/\IsR w' a T (rC l bad cZ).l (rC l bad cZ).bad/\Only [a] w w':=by
 unfold rC;have hk:=gc a l bad w h hm;clear h hm;generalize rI l bad=r at hk;obtain ⟨v,l1,bad1⟩:=r;simp only at hk ⊢;have HK:=ab hk;clear hk;by_cases h0:v<0
 ·rw [aA (.inl h0)];go_enter Tryz.func106,Tryz.ntmps106
  go_wp2_with fail
  refine HK.out.mono ?_;rintro e w1 ⟨rfl,hr,ho⟩;go_wp2_with fail
  refine (jN a _ _ _ hr).mono ?_;rintro e w2 ⟨rfl,hr2,ho2⟩;clear hr;go_wp2
  go_ret
  exact ⟨rfl,hr2,ho.trans ho2⟩
 ·by_cases h1:cZ<v
  ·rw [aA (.inr h1)];go_enter Tryz.func106,Tryz.ntmps106
   go_wp2_with fail
   refine HK.out.mono ?_;rintro e w1 ⟨rfl,hr,ho⟩;go_wp2_with fail
   refine (jN a _ _ _ hr).mono ?_;rintro e w2 ⟨rfl,hr2,ho2⟩;clear hr;go_wp2
   go_ret
   exact ⟨rfl,hr2,ho.trans ho2⟩
  ·rw [aw (by omega)];go_enter Tryz.func106,Tryz.ntmps106
   go_wp2_with fail
   refine HK.out.mono ?_;rintro e w1 ⟨rfl,hr,ho⟩;go_wp2
   go_ret
   exact ⟨rfl,hr,ho⟩
theorem xk (p:Addr) (k:Nat):(p.add k).block=p.block:=by unfold Addr.add;split<;>simp
theorem zC {w:World} {p:Addr} {n c:Nat} {l:List UInt8} (h:IsB w (some p) n c l) (k c':Nat) (hk:k<=n):IsB w (some (p.add k)) (n - k) c' (l.drop k):=by
 rcases h.at_ with h3 | ⟨b',off',h4,h5⟩
 ·refine ⟨by rw [bz,h.len],(λe=>by cases e),.inl (by omega)⟩
 ·cases h4;rw [Addr.add_lit];exact jy h k c' hk
set_option maxHeartbeats 400000 in
theorem ti (a:Nat) (l:List UInt8) (bad:Bool) (cZ:Int) (w:World) (h:IsR w a T l bad) (hm:l.length<=140737488355328) :
  Calls Tryz.prog 89 #[.pointer (some ⟨a,0,none⟩),.int .i64 cZ] w λe w'=>e = .returned (.string (rT l bad cZ).v)/\IsR w' a T (rT l bad cZ).l (rT l bad cZ).bad/\Only [a] w w':=by
 unfold rT;have hk:=qV a l bad cZ w h hm;have hp:=Cl l bad cZ;have hlen:=Cm l bad cZ;generalize rC l bad cZ=r at hk hp hlen;obtain ⟨v,l1,bad1⟩:=r;simp only at hk hp hlen ⊢;have hm1:l1.length<=140737488355328:=by omega
 clear h hm hlen;have HK:=ab hk;clear hk;obtain ⟨k,rfl⟩:=Int.eq_ofNat_of_zero_le hp;by_cases h0:l1.length<k
 ·rw [aA (by omega)];go_enter Tryz.func89,Tryz.ntmps89
  go_wp2_with fail
  refine HK.out.mono ?_;rintro e w1 ⟨rfl,hr,ho⟩;have hr':=hr;obtain ⟨⟨ao,n,c,h1,h2,h3,h4⟩,hne⟩:=hr';have hc0:w1.cell? ⟨a,0,none⟩=some (.slice ao n c):=by rw [af h1];rfl
  have hn:n<k:=by have:=h2.len;omega
  clear h1 h2 h4 h0;have HR:=ab hr;clear hr;go_wp2_with fail
  refine (jN a _ _ _ HR.out).mono ?_;rintro e w2 ⟨rfl,hr2,ho2⟩;go_wp2
  go_ret
  exact ⟨rfl,hr2,ho.trans ho2⟩
 ·rw [aw (by omega)];rw [ed];go_enter Tryz.func89,Tryz.ntmps89
  go_wp2_with fail
  refine HK.out.mono ?_;rintro e w1 ⟨rfl,hr,ho⟩;obtain ⟨⟨ao,n,c,h1,h2,h3,h4⟩,hne⟩:=hr;have hc0:w1.cell? ⟨a,0,none⟩=some (.slice ao n c):=by rw [af h1];rfl
  have hf0:=aM h1 0;have hlen:=h2.len;have hn:k<=n:=by omega
  have hconv:=iM w1 _ _ _ _ (la h2 k hn);generalize hs:fp (l1.take k)=s at hconv;have HS:=ab hs;clear hs;have HR:=ab h1;clear h1;have HB:=ab h2;clear h2;have H4:=ab h4;clear h4;have HL:=ab hlen;have hn9:n<=140737488355328:=by omega
  clear hlen h0 hm1;cases ao with
  | none =>
   obtain ⟨rfl,rfl⟩:=HB.out.nil rfl;obtain rfl:k=0:=by omega
   go_wp2_with fail
   go_ret
   exact ⟨by rw [HS.out];rfl,kZ HR.out HB.out (ah _) H4.out hne,ho.trans ((Only.refl [a] _).setCell (by simp) _)⟩
  | some p =>
   obtain ⟨b,off,ins⟩:=p;by_cases hkc:k=c
   ·subst hkc;obtain rfl:n=k:=by omega
    go_wp2_with fail
    go_ret
    refine ⟨by rw [HS.out];rfl,?_,ho.trans ((Only.refl [a] _).setCell (by simp) _)⟩;rw [Az (by rw [HL.out];exact ah _)];exact kZ HR.out (nH 0) (ah _) (λp hp=>by cases hp;exact H4.out _ rfl) hne
   ·go_wp2_with fail
    go_ret
    refine ⟨by rw [HS.out];rfl,?_,ho.trans ((Only.refl [a] _).setCell (by simp) _)⟩;exact kZ HR.out (zC HB.out k _ hn) (by omega) (λp hp=>by cases hp;rw [xk];exact H4.out _ rfl) hne
theorem gz {w:World} {base:Nat} {e:TypeId} {v:Value} {l:List UInt8} (h:OwnB w base e v l) :
  ∃ao c,v = .slice ao l.length c/\IsB w ao l.length c l/\l.length<=c/\(∀p,ao=some p->base<=p.block/\p.block<w.heap.size):=by
 obtain ⟨ao,c,rfl,h1⟩:=h.isB;refine ⟨ao,c,rfl,h1,?_,?_⟩
 ·rcases h.2 with ⟨h2,h3⟩ | ⟨g,cap,cur,hv,hg,hh,hn,hm,hs,ht⟩
  ·have:l.length=0:=by simpa using h3
   omega
  ·cases hv;exact hn
 ·intro p hp;subst hp;exact h.lt p.block (by
   rcases h.2 with ⟨h2,h3⟩ | ⟨g,cap,cur,hv,hg,hh,hn,hm,hs,ht⟩
   ·cases h2
   ·cases hv;rfl)
set_option maxHeartbeats 400000 in
theorem yB (ao:Option Addr) (n c:Nat) (l:List UInt8) (w:World) (h:IsB w ao n c l) (hn:n<=1099511627776) :
  Calls Tryz.prog 59 #[.slice ao n c] w λe w'=>∃a,e = .returned (.pointer (some ⟨a,0,none⟩))/\IsR w' a (λb=>w.heap.size<=b/\b<a) l false/\w.heap.size<=a/\a<w'.heap.size/\Below w.heap.size w w':=by
 have hlen:=h.len;have hb1:([]:List UInt8).length+n<=140737488355328:=by simp;omega
 have HB:=ab h;clear h;go_enter Tryz.func59,Tryz.ntmps59
 go_wp2_with (at_builtin;refine cJ rfl _ _ 31 rfl w.heap.size 5 Tryz.underlying31 iI _ [] rfl (OwnB.new _ _ _ [] _ rfl _ rfl (by exact ah _) 0 rfl (by decide)) _ _ _ _ rfl (HB.out.alloc _) hb1 (by simp) ?_;intro v' w2 hown' hgr hb2;clear hgr;rw [cL] at hown';obtain ⟨a1,c1,hv1,hbs,hc1,hn1⟩:=gz hown';subst hv1;clear hown';rw [hlen] at hbs hc1)
 have hz:=hb2.size;go_ret
 refine ⟨w2.heap.size,rfl,⟨⟨_,_,_,aK _ _,hbs.alloc _,hc1,λp hp=>hn1 p hp⟩,λh=>Nat.lt_irrefl _ h.2⟩,by simp at hz;omega,by simp,(((az _ _).alloc (ah _) _).trans hb2).alloc (by simp at hz;omega) _⟩
theorem ua (z:Int) (i:Nat):(fi z i).toNat=(BitVec.ofInt 64 z).toNat / 2 ^ (8*(7 - i)) % 256:=by
 unfold fi;rw [Dz]
theorem Ax (z:Int):oG (fy z)=(BitVec.ofInt 64 z).toNat:=by
 have h:=(BitVec.ofInt 64 z).isLt;simp only [oG,fy,jJ,List.foldl_nil,oW,ua];generalize (BitVec.ofInt 64 z).toNat=M at *;simp only [Nat.reduceMul,Nat.reduceSub,Nat.reducePow];omega
theorem ov (z:Int):((BitVec.ofInt 64 z).toNat:Int)=z % 18446744073709551616:=by
 rw [BitVec.toNat_ofInt];have:(0:Int)<=z % ((2 ^ 64:Nat):Int):=Int.emod_nonneg _ (by decide);rw [Int.toNat_of_nonneg this];rfl
theorem jo (z:Int) (rest:List UInt8) (h1 : -9223372036854775808<=z) (h2:z<=9223372036854775807):ou (fy z++rest)=z:=by
 unfold ou;have h3:(fy z++rest).take 8=fy z:=by simp [fy]
 rw [h3,Ax,ov];unfold wrap64;omega
theorem vw (l:List UInt8):(fp l).size=l.length:=by simp [fp,ByteArray.size]
theorem ki (z:Int) (rest:List UInt8) (bad:Bool) (h1 : -9223372036854775808<=z) (h2:z<=9223372036854775807):rI (fy z++rest) bad=⟨z,rest,bad⟩:=by
 unfold rI;rw [aw (by rw [ay,eZ];omega),jo z rest h1 h2];rfl
theorem Cn (z:Int) (rest:List UInt8) (bad:Bool) (cZ:Int) (h0:0<=z) (h1:z<=cZ) (h2:cZ<=9223372036854775807):rC (fy z++rest) bad cZ=⟨z,rest,bad⟩:=by
 unfold rC;rw [ki z rest bad (by omega) (by omega),aw (by simp only;omega)]
theorem vx (s:ByteArray):fp s.data.toList=s:=by unfold fp;simp
theorem Cj (s:ByteArray) (rest:List UInt8) (bad:Bool) (cZ:Int) (h1:(s.size:Int)<=cZ) (h2:cZ<=9223372036854775807):rT (xn s++rest) bad cZ=⟨s,rest,bad⟩:=by
 unfold rT xn;rw [bD,Cn _ _ bad cZ (by omega) h1 h2,aw (by simp only [ay,oQ];omega)];simp only [ed];rw [<-oQ s,List.take_left,List.drop_left,vx]
end Go.Proofs.YtnhefallmioefaaGreat
