/-
  What the proof of the law leans on: contracts of the program's functions, one behind another. No condition.
-/
import Derived.Test.YtnicaicjgaoolaaU0
import Derived.Test.YtnicaicjgaoolaaU3
import Derived.Test.YtnicaicjgaoolaaU4
import Derived.Test.YtnicaicjgaoolaaU2
set_option linter.unusedVariables false
set_option linter.unusedSimpArgs false
namespace Go.Proofs.Ytnicaicjgaoolaa
open Go.RowKit Go.ChangeMaps Go.WideMaps Go.Maps
set_option maxRecDepth 20000
theorem Ct (w:World):Calls Try.prog 20 #[.int .i64 1048576] w λe w'=>∃d D,e = .returned (.tuple #[.pointer (some ⟨d,0,none⟩),.int .i64 0])/\IsDk w' D d ⟨1048576,false,1,none⟩/\Below w.heap.size w w'/\∀b∈D,w.heap.size<=b:=by
 have hb1:Below w.heap.size w (w.alloc (.map #[] 0)):=(aB _ _).alloc (ah _) _;have hb2:Below w.heap.size w ((w.alloc (.map #[] 0)).alloc (.cells #[.int .i64 1048576,.bool false,.int .i64 1,.map (some w.heap.size)] 79)):=hb1.alloc (by simp) _;have hm:=bp (aJ w (.map #[] 0)) (.cells #[.int .i64 1048576,.bool false,.int .i64 1,.map (some w.heap.size)] 79);have hd:=aJ (w.alloc (.map #[] 0)) (.cells #[.int .i64 1048576,.bool false,.int .i64 1,.map (some w.heap.size)] 79);rw [show (w.alloc (.map #[] 0)).heap.size=w.heap.size+1 by simp] at hd;have hsz:((w.alloc (.map #[] 0)).alloc (.cells #[.int .i64 1048576,.bool false,.int .i64 1,.map (some w.heap.size)] 79)).heap.size=w.heap.size+2:=by simp
 have HB:=ab hb2;have HM:=ab hm;have HD:=ab hd;have HS:=ab hsz;clear hb1 hb2 hm hd hsz;have hmk:∀w:World,(Instr.makeMap 77 none).run Try.prog w = .ok (.map (some w.heap.size)) (w.alloc (.map #[] 0)):=λw=>by simp [Instr.makeMap,run_underlying Try.underlying77,Result.andThen]
 go_enter Try.func20,Try.ntmps20
 go_wp2_with fail
 go_ret2
 have hsz:=HS.out;refine ⟨w.heap.size+1,[w.heap.size+1,w.heap.size],by simp,⟨⟨w.heap.size,HD.out,by simp,0,HM.out⟩,by simp,λb hb=>?_⟩,HB.out,λb hb=>?_⟩
 ·simp at hb;rcases hb with rfl | rfl<;>omega
 ·simp at hb;rcases hb with rfl | rfl<;>omega
theorem x9 {p:Prop} (h:p:=by
 refine az 15 ?_;refine az 16 ?_;refine cf 17 λK hK=>?_;have hy0:w5.cell? ⟨fb,0,none⟩=some (.slice ao l.length c):=by rw [af HF5.out];rfl
 have hz0:=aO HF5.out 0;obtain ⟨a5,c5,rfl,_⟩:=HO5.out.isB;have hlk:(l.take n).length=n:=by rw [aE];omega
 rw [hlk] at HO5 HO5V;go_simp
 clear hy0 hz0 hlk;have HF6:=ab (aZ HF5.out 0 (.slice a5 n c5));refine hK.out _ _ trivial (λam=>?_);clear hK K;refine bu ?_;refine az 18 ?_;refine az 19 ?_;refine cf 20 λK hK=>?_;have hy1:(w5.setCell ⟨fb,0,none⟩ (.slice a5 n c5)).cell? ⟨fb,1,none⟩=some (.int .i64 (k:Int)):=by rw [af HF6.out];rfl
 have hz1:=aO HF6.out 1;go_simp
 clear hy1 hz1;refine hK.out _ _ trivial (λam=>?_);clear hK K;refine bu ?_;refine fc ?_;go_wp2_with fail
 go_meet
 exact ⟨w5,a5,c5,rfl,HO5.out,HB5.out,HO5V.out⟩):p:=h
theorem x7 {p:Prop} (h:p:=by
 refine cf 8 λK hK=>?_;go_simp
 refine (F.dJ ao n c (l.take n) _ HIV.out (by omega)).mono ?_;rintro e w5 ⟨v5,rfl,ho5,hb5⟩;have HB5:=ab hb5;have HO5:=ab (ho5.mono (aA _));have HO5V:=ab ho5;have HF5:=ab (bQ hb5 (aU HFV.out) HFV.out);clear ho5 hb5;go_wp2_with fail
 refine hK.out _ _ trivial (λam=>?_);clear hK K;refine bu ?_;exact x9):p:=h
section
variable {w:World} {D:List Nat} {d:Nat} {s:Dk}
set_option maxHeartbeats 2000000 in
theorem BJ (h:IsDk w D d s) (ho:s.off=false) {l:List UInt8} {k:Nat} (hf:s.file=some (l,k)) (n:Nat) (hn:n<=l.length) (hl:l.length<=1048576) (hk:k<=l.length) :
  Calls Try.prog 58 #[.pointer (some ⟨d,0,none⟩),.string fo,.int .i64 (n:Int)] w λe w'=>∃D',e = .returned (.int .i64 0)/\IsDk w' D' d { s with file:=some (l.take n,min k n)}/\Moves D D' w w':=by
 obtain ⟨mb,cc,fb,b0,v,hp⟩:=h.parts hf;have HF:=ab (nN hp hf ho);have HP:=ab hp;have hnl:(n:Int)<=(l.length:Int):=by omega
 have g1:decide (l.length<n)=false:=bq (by omega);have g2:decide ((n:Int)<0)=false:=bq (by omega);clear h hp;go_enter Try.func58,Try.ntmps58
 go_wp2_with fail
 refine HF.out.mono ?_;rintro e W ⟨rfl,hb⟩;have HB:=ab hb;have HP1:=ab (HP.out.below hb);obtain ⟨ao,c,e1,hi⟩:=HP1.out.ho.isB;subst e1;have hc:W.cell? ⟨fb,0,none⟩=some (.slice ao l.length c):=by rw [af HP1.out.hf];rfl
 have hkc:n<=c:=aF hn (uA HP1.out.ho);have HIV:Hid (IsB W.drew ao n c (l.take n)):=ab ((pc hi hn).below (cB W));have HFV:Hid (W.drew.heap[fb]? = some (.cells #[.slice ao l.length c,.int .i64 (k:Int)] 86 (0,0))):=ab HP1.out.hf;have HPV:=ab (HP1.out.below (cB W));have HBV:Hid (Below w.heap.size w W.drew):=ab (hb.trans ((cB W).mono hb.size));clear hb hi;go_upto_region 6 with (fail)
 clear hc;go_cut [] (λwx=>∃w5 a5 c5,wx=(w5.setCell ⟨fb,0,none⟩ (.slice a5 n c5)).setCell ⟨fb,1,none⟩ (.int .i64 (min (k:Int) (n:Int)))/\OwnB w5 0 5 (.slice a5 n c5) (l.take n)/\Below W.drew.heap.size W.drew w5/\OwnB w5 W.drew.heap.size 5 (.slice a5 n c5) (l.take n))
 case first =>
  refine wp_region_held_drew (S:=λ_=>True) (by kernel_rfl) trivial (λam=>?_);refine az 0 ?_;refine az 1 ?_;refine az 2 ?_;refine az 3 ?_;refine az 4 ?_;refine az 6 ?_;refine az 9 ?_;refine az 10 ?_;refine az 11 ?_;refine az 13 ?_;generalize W.drew=V at *;refine gJ 5 12 (λK hK=>?_) λK hK=>?_
  ·have hy0:V.cell? ⟨fb,0,none⟩=some (.slice ao l.length c):=by rw [af HFV.out];rfl
   go_simp
   clear hy0;refine hK.out _ _ trivial (λam=>?_);clear hK K;refine bu ?_;refine az 7 ?_;refine gJ 8 12 (λK hK=>?_) λK hK=>?_
   ·go_simp
    refine (F.dJ ao n c (l.take n) _ HIV.out (by omega)).mono ?_;rintro e w5 ⟨v5,rfl,ho5,hb5⟩;have HB5:=ab hb5;have HO5:=ab (ho5.mono (aA _));have HO5V:=ab ho5;have HF5:=ab (bQ hb5 (aU HFV.out) HFV.out);clear ho5 hb5;go_wp2_with fail
    refine hK.out _ _ trivial (λam=>?_);clear hK K;refine bu ?_;refine cf 12 λK hK=>?_;have hy1:w5.cell? ⟨fb,1,none⟩=some (.int .i64 (k:Int)):=by rw [af HF5.out];rfl
    go_simp
    clear hy1;refine hK.out _ _ trivial (λam=>?_);clear hK K;refine bu ?_;refine az 14 ?_;exact x9
   ·have hy1:V.cell? ⟨fb,1,none⟩=some (.int .i64 (k:Int)):=by rw [af HFV.out];rfl
    go_simp
    clear hy1;refine hK.out _ _ trivial (λam=>?_);clear hK K;refine bu ?_;refine az 14 ?_;exact x7
  ·have hy1:V.cell? ⟨fb,1,none⟩=some (.int .i64 (k:Int)):=by rw [af HFV.out];rfl
   go_simp
   clear hy1;refine hK.out _ _ trivial (λam=>?_);clear hK K;refine bu ?_;refine az 14 ?_;refine cf 5 λK hK=>?_;have hy0:V.cell? ⟨fb,0,none⟩=some (.slice ao l.length c):=by rw [af HFV.out];rfl
   go_simp
   clear hy0;refine hK.out _ _ trivial (λam=>?_);clear hK K;refine bu ?_;refine az 7 ?_;exact x7
 case rest =>
  obtain ⟨w5,a5,c5,rfl,ho5,hb5,ho5v⟩:=hcut;have hp5:=HPV.out.below hb5;have o9:Only [fb] w5 ((w5.setCell ⟨fb,0,none⟩ (.slice a5 n c5)).setCell ⟨fb,1,none⟩ (.int .i64 (min (k:Int) (n:Int)))):=((Only.refl _ _).setCell (by simp) _).setCell (by simp) _;have hf9:=aZ (aZ hp5.hf 0 (.slice a5 n c5)) 1 (.int .i64 (min (k:Int) (n:Int)));have hlt5:=mN ho5;have hmin:((min k n:Nat):Int)=min (k:Int) (n:Int):=by omega
  have hp9:=hp5.set (k':=min k n) (D':=D++(Value.slice a5 n c5).ownBlock.toList) (s':={ s with file:=some (l.take n,min k n)}) o9 (by rw [hmin];exact hf9) ho5 (λb hb=>by simp [hb]) (λj hj=>by simp [hj]) (λb hb=>by
    simp only [av,dP] at hb;rcases hb with hb | hb
    ·exact hp5.lt b hb
    ·exact hlt5 b hb) ⟨rfl,rfl,rfl⟩
  have HD9:=ab (hp9.dk rfl);have oall:Only D w ((w5.setCell ⟨fb,0,none⟩ (.slice a5 n c5)).setCell ⟨fb,1,none⟩ (.int .i64 (min (k:Int) (n:Int)))):=(Only.ofBelow (HBV.out.trans (hb5.mono HBV.out.size)) D).trans (o9.mono (by simpa using HPV.out.fD));have HM9:Hid (Moves D (D++(Value.slice a5 n c5).ownBlock.toList) w ((w5.setCell ⟨fb,0,none⟩ (.slice a5 n c5)).setCell ⟨fb,1,none⟩ (.int .i64 (min (k:Int) (n:Int))))):=ab ⟨oall,λb hb=>by
    simp only [av,dP] at hb;rcases hb with hb | hb
    ·exact .inl hb
    ·exact .inr (aF HBV.out.size (ho5v.lt b hb).1),λb hb=>by simp [hb]⟩
  clear hp5 o9 hf9 hlt5 hmin hp9 oall ho5 ho5v hb5;go_wp2_with fail
  go_ret
  exact ⟨_,rfl,HD9.out,HM9.out⟩
end
end Go.Proofs.Ytnicaicjgaoolaa
namespace Go.Proofs.Ytnicaicjgaoolaa.F
open Go.Proofs.Ytnicaicjgaoolaa
open Go.RowKit
theorem n4 (c:BitVec 32) (i:Nat):(b4 c i).toNat=c.toNat / 2 ^ (8*(3 - i)) % 256:=by unfold b4;rw [Du]
theorem rb (c:BitVec 32):pT (b4 c 0) (b4 c 1) (b4 c 2) (b4 c 3)=c:=by
 apply BitVec.eq_of_toNat_eq;rw [ic,n4,n4,n4,n4];have:=c.isLt;simp only [Nat.reduceMul,Nat.reduceSub,Nat.reducePow];omega
theorem Ap (x0 x1 x2 x3:UInt8):lH (pT x0 x1 x2 x3)=[x0,x1,x2,x3]:=by
 have h0:=x0.toNat_lt;have h1:=x1.toNat_lt;have h2:=x2.toNat_lt;have h3:=x3.toNat_lt;have e:∀(i:Nat) (y:UInt8),(pT x0 x1 x2 x3).toNat / 2 ^ (8*(3 - i)) % 256=y.toNat->b4 (pT x0 x1 x2 x3) i=y:=λi y h=>UInt8.toNat_inj.1 (by rw [n4,h]);unfold lH;rw [e 0 x0 (by rw [ic];simp only [Nat.reduceMul,Nat.reduceSub,Nat.reducePow];omega),e 1 x1 (by rw [ic];simp only [Nat.reduceMul,Nat.reduceSub,Nat.reducePow];omega),
  e 2 x2 (by rw [ic];simp only [Nat.reduceMul,Nat.reduceSub,Nat.reducePow];omega),e 3 x3 (by rw [ic];simp only [Nat.reduceMul,Nat.reduceSub,Nat.reducePow];omega)]
theorem BN {a b:BitVec 32} (h:lH a=lH b):a=b:=by
 unfold lH at h;simp only [List.cons.injEq,and_true] at h;rw [<-rb a,<-rb b,h.1,h.2.1,h.2.2.1,h.2.2.2]
theorem BO (l:List UInt8) (i:Nat) (h:i+4<=l.length):lH (jt l i)=(l.drop i).take 4:=by
 unfold jt;rw [Ap];apply List.ext_getElem?;intro j;rcases (by omega:j=0\/j=1\/j=2\/j=3\/4<=j) with rfl | rfl | rfl | rfl | h4
 ·simp [bP,fA,show i<l.length by omega]
 ·simp [bP,fA,show i+1<l.length by omega]
 ·simp [bP,fA,show i+2<l.length by omega]
 ·simp [bP,fA,show i+3<l.length by omega]
 ·rw [eF (by simpa using h4),eF (by simp;omega)]
theorem n6 (l:List UInt8) (i:Nat) (c:BitVec 32) (h:(l.drop i).take 4=lH c):jt l i=c:=by
 apply BN;have hl:i+4<=l.length:=by
  have:=congrArg List.length h;rw [aE,bw,mT] at this;omega
 rw [BO l i hl,h]
theorem rh (rec rest:List UInt8) (h:rec.length<=20000):ec (cz rec++rest)=(12+rec.length,0):=by
 have hl:=di rec;have hL:(cz rec++rest).length=12+rec.length+rest.length:=by rw [ay,hl]
 have e:cz rec++rest=lH (BitVec.ofNat 32 rec.length)++(lH (~~~ (BitVec.ofNat 32 rec.length))++(lH (Crc.sg (ee rec++rec))++(rec++rest))):=by
  unfold cz ee;simp only [bH]
 have h0:jt (cz rec++rest) 0=BitVec.ofNat 32 rec.length:=n6 _ _ _ (by rw [e,List.drop_zero];rfl);have h4:jt (cz rec++rest) 4 = ~~~ (BitVec.ofNat 32 rec.length):=n6 _ _ _ (by rw [e];rfl);have h8:jt (cz rec++rest) 8=Crc.sg (ee rec++rec):=n6 _ _ _ (by rw [e];rfl);have hn:(BitVec.ofNat 32 rec.length).toNat=rec.length:=by rw [gT,xi (by omega)]
 have ht:(cz rec++rest).take 8=ee rec:=by rw [e];rfl
 have hd:((cz rec++rest).drop 12).take rec.length=rec:=by
  have:(cz rec++rest).drop 12=rec++rest:=by rw [e];rfl
  rw [this,List.take_left]
 unfold ec;rw [aw (by omega),h0,h4,h8,hn,aw (by simp only [ne_eq,not_true_eq_false,false_or];omega),aw (by omega),ht,hd,aw (by simp)]
theorem pM (rec rest:List UInt8):((cz rec++rest).take (12+rec.length)).drop 12=rec:=by
 have e:cz rec++rest=(ee rec++lH (Crc.sg (ee rec++rec)))++(rec++rest):=by unfold cz;simp only [bH]
 have hl:(ee rec++lH (Crc.sg (ee rec++rec))).length=12:=rfl;rw [List.drop_take,show 12+rec.length - 12=rec.length by omega,e,jU hl,List.take_left]
theorem tB (rec:List UInt8) (h:rec.length<=20000) (j:Nat) (hj:j<12+rec.length):ec ((cz rec).take j)=(0,1):=by
 have hl:=di rec;have hlt:((cz rec).take j).length=j:=by rw [aE];omega
 unfold ec;by_cases h12:j<12
 ·rw [ax (by omega)]
 ·rw [aw (by omega)];have e:cz rec=lH (BitVec.ofNat 32 rec.length)++(lH (~~~ (BitVec.ofNat 32 rec.length))++(lH (Crc.sg (ee rec++rec))++rec)):=by
   unfold cz ee;simp only [bH]
  have h0:jt ((cz rec).take j) 0=BitVec.ofNat 32 rec.length:=n6 _ _ _ (by
   rw [List.drop_zero,cL,bB (by omega),e];rfl)
  have h4:jt ((cz rec).take j) 4 = ~~~ (BitVec.ofNat 32 rec.length):=n6 _ _ _ (by
   rw [List.drop_take,cL,bB (by omega),e];rfl)
  have hn:(BitVec.ofNat 32 rec.length).toNat=rec.length:=by rw [gT,xi (by omega)]
  rw [h0,h4,hn,aw (by simp only [ne_eq,not_true_eq_false,false_or];omega),ax (by omega)]
def aL (ls:List (List UInt8)):List UInt8:=ls.flatMap cz
theorem tR:aL []=[]:=rfl
theorem et (r:List UInt8) (ls:List (List UInt8)):aL (r::ls)=cz r++aL ls:=rfl
theorem ov (ls ms:List (List UInt8)):aL (ls++ms)=aL ls++aL ms:=by simp [aL]
theorem pH (pre rest:List UInt8) (ls acc:List (List UInt8)) (h:∀r∈ls,r.length<=20000) (t:Nat) (ht:(aL ls++rest).length<=t) :
  gN (pre++(aL ls++rest)) t pre.length acc=gN (pre++(aL ls++rest)) (t - (aL ls).length) (pre.length+(aL ls).length) (acc++ls):=by
 induction ls generalizing pre acc t with
 | nil=>simp [tR]
 | cons r ls ih =>
  have hr:=h r (by simp);have hl:=di r;have hlen:(aL (r::ls)++rest).length=12+r.length+(aL ls++rest).length:=by rw [et,bH,ay,hl]
  obtain ⟨s,rfl⟩:∃s,t=s+1:=⟨t - 1,by omega⟩
  have hd:(pre++(aL (r::ls)++rest)).drop pre.length=cz r++(aL ls++rest):=by rw [List.drop_left,et,bH]
  have hn:=rh r (aL ls++rest) hr;have hrec:=pM r (aL ls++rest);have e1:gN (pre++(aL (r::ls)++rest)) (s+1) pre.length acc=gN (pre++(aL (r::ls)++rest)) s (pre.length+(12+r.length)) (acc++[r]):=by
   show (if _ then _ else if _ then _ else _)=_;rw [hd,hn];simp only;rw [aw (by rw [ay,hlen];omega),ax trivial,hrec]
  rw [e1];have e2:pre++(aL (r::ls)++rest)=(pre++cz r)++(aL ls++rest):=by rw [et];simp only [bH]
  have e3:pre.length+(12+r.length)=(pre++cz r).length:=by rw [ay,hl]
  rw [e2,e3,ih (pre++cz r) (acc++[r]) (λx hx=>h x (by simp [hx])) s (by omega)];rw [et,ay,ay,hl];have hfl:(aL ls).length<=(aL ls++rest).length:=by rw [ay];omega
  rw [bH acc,List.singleton_append];rw [show pre.length+(12+r.length)+(aL ls).length=pre.length+(12+r.length+(aL ls).length) by omega];exact ky _ _ _ _ _ (by simp only [ay,hl] at hlen ht ⊢;omega) (by simp only [ay,hl] at hlen ht ⊢;omega)
theorem kX (ls:List (List UInt8)) (rest:List UInt8) (h:∀r∈ls,r.length<=20000) :
  cU (aL ls++rest)=gN (aL ls++rest) rest.length (aL ls).length ls:=by
 unfold cU;have:=pH [] rest ls [] h (aL ls++rest).length (ah _);simp only [bR,dU,dg] at this;rw [this];exact ky _ _ _ _ _ (by rw [ay];omega) (by rw [ay];omega)
theorem nv (ls:List (List UInt8)) (h:∀r∈ls,r.length<=20000):cU (aL ls)=(ls,(aL ls).length,0):=by
 have:=kX ls [] h;rw [cF] at this;rw [this];rfl
theorem pJ (ls:List (List UInt8)) (rest:List UInt8) (h:∀r∈ls,r.length<=20000) (h0:0<rest.length) (h1:¬(ec rest).2=0):cU (aL ls++rest)=(ls,(aL ls).length,(ec rest).2):=by
 rw [kX ls rest h];obtain ⟨t,ht⟩:∃t,rest.length=t+1:=⟨rest.length - 1,by omega⟩
 rw [ht];show (if _ then _ else if _ then _ else _)=_;rw [List.drop_left,aw (by rw [ay];omega),aw h1]
theorem pI (ls:List (List UInt8)) (r:List UInt8) (j:Nat) (h:∀r∈ls,r.length<=20000) (hr:r.length<=20000) (hj:j<12+r.length) :
  cU (aL ls++(cz r).take j)=(ls,(aL ls).length,if j=0 then 0 else 1):=by
 by_cases h0:j=0
 ·subst h0;rw [List.take_zero,cF,nv ls h];rfl
 ·have hl:=di r;have hn:=tB r hr j hj;rw [pJ ls _ h (by rw [aE];omega) (by rw [hn];decide),hn,aw h0]
end Go.Proofs.Ytnicaicjgaoolaa.F
namespace Go.Proofs.Ytnicaicjgaoolaa
open Go.RowKit Go.ChangeMaps Go.WideMaps Go.Maps
set_option maxRecDepth 20000
def Dis (A B:List Nat):Prop:=∀x∈A,x∉B
theorem Dis.symm {A B:List Nat} (h:Dis A B):Dis B A:=λx hb ha=>h x ha hb
def Ext (A A':List Nat) (w:World):Prop:=∀b∈A',b∈A\/w.heap.size<=b
theorem Ext.refl (A:List Nat) (w:World):Ext A A w:=λb h=>.inl h
theorem Moves.dis {D D' X:List Nat} {w w':World} (h:Moves D D' w w') (hd:Dis D X) (hx:∀b∈X,b<w.heap.size):Dis D' X:=λb hb hX=>by
 rcases h.gr b hb with h1 | h1
 ·exact hd b h1 hX
 ·have:=hx b hX;omega
def Imm (w:World) (A:List Nat) (v:Value) (l:List UInt8):Prop:=∃ao c,v = .slice ao l.length c/\IsB w ao l.length c l/\l.length<=c/\∀p,ao=some p->p.block∉A/\p.block<w.heap.size
theorem Imm.step {w w':World} {A A' S:List Nat} {v:Value} {l:List UInt8} (h:Imm w A v l) (ho:Only S w w') (hS:∀b∈S,b∈A) (he:Ext A A' w):Imm w' A' v l:=by
 obtain ⟨ao,c,rfl,h1,h2,h3⟩:=h;refine ⟨ao,c,rfl,gk h1 ho (λb off i hb=>λhm=>(h3 _ hb.1).1 (hS b hm)),h2,λp hp=>?_⟩;obtain ⟨h4,h5⟩:=h3 p hp;refine ⟨λhm=>?_,aH h5 ho.size⟩;rcases he _ hm with h6 | h6
 ·exact h4 h6
 ·omega
theorem Imm.below {w w':World} {A:List Nat} {v:Value} {l:List UInt8} (h:Imm w A v l) (hb:Below w.heap.size w w'):Imm w' A v l:=h.step (Only.ofBelow hb []) (λb hb=>by cases hb) (Ext.refl _ _)
theorem Imm.new {w w':World} {A:List Nat} {v:Value} {l:List UInt8} (h:OwnB w' w.heap.size 5 v l) (hA:∀b∈A,b<w.heap.size):Imm w' A v l:=by
 obtain ⟨ao,c,rfl,h1,h2,h3⟩:=gz h;exact ⟨ao,c,rfl,h1,h2,λp hp=>⟨λhm=>by have:=hA _ hm;have:=(h3 p hp).1;omega,(h3 p hp).2⟩⟩
theorem Imm.mono {w:World} {A A':List Nat} {v:Value} {l:List UInt8} (h:Imm w A' v l) (hs:∀b∈A,b∈A'):Imm w A v l:=by
 obtain ⟨ao,c,h0,h1,h2,h3⟩:=h;exact ⟨ao,c,h0,h1,h2,λp hp=>⟨λhm=>(h3 p hp).1 (hs _ hm),(h3 p hp).2⟩⟩
structure Wl where
 lives:Int
 done:Bool
 recs:List (List UInt8)
def cP (recs:List (List UInt8)):List Int:=(List.range recs.length).map λi=>((F.aL (recs.take (i+1))).length:Int)
theorem fi (recs:List (List UInt8)):(cP recs).length=recs.length:=by simp [cP]
structure WRows (w:World) (A L:List Nat) (vr ve:Value) (recs:List (List UInt8)):Prop where
 rr:∃us:List Value,us.length=recs.length/\w.ownsRow 0 29 1 vr recs.length us/\∀i,i<recs.length->Imm w A (us.getD i undef) (recs.getD i [])
 re:OwnI w 0 3 ve (cP recs)
 vrL:∀k,vr.ownBlock=some k->k∈L
 veL:∀k,ve.ownBlock=some k->k∈L
structure IsWl (w:World) (A L:List Nat) (l d:Nat) (s:Wl):Prop where
 ex:∃vr ve,w.heap[l]? = some (.cells #[.pointer (some ⟨d,0,none⟩),.int .i64 s.lives,.bool s.done,.int .i64 1,vr,ve] 99 (0,0))/\WRows w A L vr ve s.recs
 mem:l∈L
 lt:∀b∈L,b<w.heap.size
theorem WRows.keep {w w':World} {A A' L S:List Nat} {vr ve:Value} {recs:List (List UInt8)} (h:WRows w A L vr ve recs) (ho:Only S w w') (hL:∀b∈L,b∉S) (hS:∀b∈S,b∈A) (he:Ext A A' w):WRows w' A' L vr ve recs:=by
 obtain ⟨⟨us,h1,h2,h3⟩,h4,h5,h6⟩:=h;exact ⟨⟨us,h1,bg h2 ho (λk hk=>hL k (h5 k hk)),λi hi=>(h3 i hi).step ho hS he⟩,bg h4 ho (λk hk=>hL k (h6 k hk)),h5,h6⟩
theorem IsWl.keep {w w':World} {A A' L S:List Nat} {l d:Nat} {s:Wl} (h:IsWl w A L l d s) (ho:Only S w w') (hL:∀b∈L,b∉S) (hS:∀b∈S,b∈A) (he:Ext A A' w):IsWl w' A' L l d s:=by
 obtain ⟨⟨vr,ve,h1,h2⟩,h3,h4⟩:=h;exact ⟨⟨vr,ve,ho.keeps h1 (hL _ h3),h2.keep ho hL hS he⟩,h3,λb hb=>aH (h4 b hb) ho.size⟩
theorem IsWl.below {w w':World} {A L:List Nat} {l d:Nat} {s:Wl} (h:IsWl w A L l d s) (hb:Below w.heap.size w w'):IsWl w' A L l d s:=h.keep (Only.ofBelow hb []) (λb _=>by simp) (λb hb=>by cases hb) (Ext.refl _ _)
section
variable {w:World} {A D L:List Nat} {l d:Nat} {s:Wl} {k:Dk}
theorem wF (h:IsWl w A L l d s):Calls Try.prog 60 #[.pointer (some ⟨l,0,none⟩)] w λe w'=>e = .returned (.int .i64 1)/\w=w':=by
 obtain ⟨⟨vr,ve,h1,_⟩,_⟩:=h;have hc:w.cell? ⟨l,3,none⟩=some (.int .i64 1):=by rw [af h1];rfl
 clear h1;go_enter Try.func60,Try.ntmps60
 go_wp2_with fail
 go_ret
 exact ⟨rfl,rfl⟩
theorem lm (h:IsWl w A L l d s) (hl:s.recs.length<=1000000000):Calls Try.prog 61 #[.pointer (some ⟨l,0,none⟩)] w λe w'=>e = .returned (.int .i64 (1+(s.recs.length:Int)))/\∃q,w'=w.drewN q:=by
 obtain ⟨⟨vr,ve,h1,⟨us,hu,hr,_⟩,_⟩,_⟩:=h;obtain ⟨ao,c,rfl,_,_⟩:=dw hr;have hc:w.cell? ⟨l,3,none⟩=some (.int .i64 1):=by rw [af h1];rfl
 have hc4:w.cell? ⟨l,4,none⟩=some (.slice ao s.recs.length c):=by rw [af h1];rfl
 have q1:IntKind.i64.wrap (1+(s.recs.length:Int))=1+(s.recs.length:Int):=IntWalk.i64_in _ (by omega);clear h1 hu hr;go_enter Try.func61,Try.ntmps61
 go_wp2_with fail
 go_quiet (fail)
 go_wp2_with fail
 go_ret
 exact ⟨rfl,nq,rfl⟩
def lj (s:Wl) (k:Dk):Bool:=s.done||(!(k.lives==s.lives)||k.off)
set_option maxHeartbeats 1000000 in
theorem pS (h:IsWl w A L l d s) (hd:IsDk w D d k):Calls Try.prog 76 #[.pointer (some ⟨l,0,none⟩)] w λe w'=>e = .returned (.bool (lj s k))/\∃q,w'=w.drewN q:=by
 have HD:=ab hd;obtain ⟨⟨vr,ve,h1,_⟩,_⟩:=h;have hc0:w.cell? ⟨l,0,none⟩=some (.pointer (some ⟨d,0,none⟩)):=by rw [af h1];rfl
 have hc1:w.cell? ⟨l,1,none⟩=some (.int .i64 s.lives):=by rw [af h1];rfl
 have hc2:w.cell? ⟨l,2,none⟩=some (.bool s.done):=by rw [af h1];rfl
 clear h1 hd;unfold lj;generalize s.done=dn at *;generalize s.lives=sl at *;cases dn with
 | true =>
  go_enter Try.func76,Try.ntmps76
  go_upto_region 1 with (fail)
  refine wp_region_held_drew (S:=λw'=>w'.cell? ⟨l,0,none⟩=some (.pointer (some ⟨d,0,none⟩))/\w'.cell? ⟨l,1,none⟩=some (.int .i64 sl)/\w'.cell? ⟨l,2,none⟩=some (.bool true)) (by kernel_rfl) ⟨hc0,hc1,hc2⟩ (λam=>?_);refine az 0 ?_;refine az 1 ?_;refine az 2 ?_;refine az 3 ?_;refine az 4 ?_;refine cv 5 ?_;refine cv 6 ?_;refine cv 7 ?_;refine cv 8 ?_;refine cv 9 ?_;refine cv 10 ?_;refine cv 11 ?_;refine cv 12 ?_;refine cv 13 ?_;refine cv 14 ?_;refine az 15 ?_;refine az 16 ?_;refine cv 17 ?_;refine cv 18 ?_;refine cv 19 ?_;refine cv 20 ?_;refine cv 21 ?_;refine cv 22 ?_;refine az 23 ?_;refine az 24 ?_;refine fc ?_;go_wp2_with fail
  go_ret
  exact ⟨by simp,1,rfl⟩
 | false =>
  by_cases hl:k.lives=sl
  ·have hlb:(k.lives==sl)=true:=by simpa using hl
   rw [hlb];have hne:(k.lives != sl)=false:=by rw [bne,hlb];rfl
   clear hl hlb;go_enter Try.func76,Try.ntmps76
   go_upto_region 1 with (fail)
   refine wp_region_held_drew (S:=λw'=>w'.cell? ⟨l,0,none⟩=some (.pointer (some ⟨d,0,none⟩))/\w'.cell? ⟨l,1,none⟩=some (.int .i64 sl)/\w'.cell? ⟨l,2,none⟩=some (.bool false)) (by kernel_rfl) ⟨hc0,hc1,hc2⟩ (λam=>?_);refine az 0 ?_;refine az 1 ?_;refine az 2 ?_;refine az 3 ?_;refine az 4 ?_;refine az 5 ?_;refine az 6 ?_;refine az 7 ?_;refine az 8 ?_;refine az 10 ?_;refine az 11 ?_;refine az 12 ?_;refine az 13 ?_;refine cf 9 λK hK=>?_;go_simp
   refine (fL (HD.out.below (cB w))).mono ?_;rintro e wa ⟨rfl,rfl⟩;go_wp2_with fail
   refine hK.out _ _ am (λam=>?_);clear hK K;refine bu ?_;refine az 14 ?_;refine az 15 ?_;refine az 16 ?_;refine az 17 ?_;refine az 18 ?_;refine az 19 ?_;refine az 20 ?_;refine cf 21 λK hK=>?_;go_simp
   refine (lQ (HD.out.below (cB w))).mono ?_;rintro e wb ⟨rfl,rfl⟩;go_wp2_with fail
   refine hK.out _ _ am (λam=>?_);clear hK K;refine bu ?_;refine az 22 ?_;refine az 23 ?_;refine az 24 ?_;refine fc ?_;go_wp2_with fail
   go_ret
   exact ⟨by simp,1,rfl⟩
  ·have hlb:(k.lives==sl)=false:=by simpa using hl
   rw [hlb];have hne:(k.lives != sl)=true:=by rw [bne,hlb];rfl
   clear hl hlb;go_enter Try.func76,Try.ntmps76
   go_upto_region 1 with (fail)
   refine wp_region_held_drew (S:=λw'=>w'.cell? ⟨l,0,none⟩=some (.pointer (some ⟨d,0,none⟩))/\w'.cell? ⟨l,1,none⟩=some (.int .i64 sl)/\w'.cell? ⟨l,2,none⟩=some (.bool false)) (by kernel_rfl) ⟨hc0,hc1,hc2⟩ (λam=>?_);refine az 0 ?_;refine az 1 ?_;refine az 2 ?_;refine az 3 ?_;refine az 4 ?_;refine az 5 ?_;refine az 6 ?_;refine az 7 ?_;refine az 8 ?_;refine az 10 ?_;refine az 11 ?_;refine az 12 ?_;refine az 13 ?_;refine cf 9 λK hK=>?_;go_simp
   refine (fL (HD.out.below (cB w))).mono ?_;rintro e wa ⟨rfl,rfl⟩;go_wp2_with fail
   refine hK.out _ _ am (λam=>?_);clear hK K;refine bu ?_;refine az 14 ?_;refine az 15 ?_;refine az 16 ?_;refine cv 17 ?_;refine cv 18 ?_;refine cv 19 ?_;refine cv 20 ?_;refine cv 21 ?_;refine cv 22 ?_;refine az 23 ?_;refine az 24 ?_;refine fc ?_;go_wp2_with fail
   go_ret
   exact ⟨by simp,1,rfl⟩
def jP (s:Wl) (e:Int):Wl:={ s with done:=s.done || !(e==0)}
theorem WRows.only_l {w':World} {vr ve:Value} {recs:List (List UInt8)} {cs:Array Value} (h:WRows w A L vr ve recs) (ho:Only [l] w w') (hl:w.heap[l]? = some (.cells cs 99 (0,0))) (hA:l∈A):WRows w' A L vr ve recs:=by
 obtain ⟨⟨us,h1,h2,h3⟩,h4,h5,h6⟩:=h;refine ⟨⟨us,h1,bg h2 ho (λb hb hm=>?_),λi hi=>(h3 i hi).step ho (by simpa using hA) (Ext.refl _ _)⟩,bg h4 ho (λb hb hm=>?_),h5,h6⟩
 ·rcases h2.2 with ⟨rfl,_⟩ | ⟨g,cap,cur,rfl,_,hg,_⟩
  ·simp [Value.ownBlock] at hb
  ·simp [Value.ownBlock] at hb;rw [aj.1 hm] at hb;subst hb;rw [hg] at hl;simp at hl
 ·rcases h4.2 with ⟨rfl,_⟩ | ⟨g,cap,cur,rfl,_,hg,_⟩
  ·simp [Value.ownBlock] at hb
  ·simp [Value.ownBlock] at hb;rw [aj.1 hm] at hb;subst hb;rw [hg] at hl;simp at hl
theorem iW (h:IsWl w A L l d s) (hA:∀b∈L,b∈A) (e0:Int):Calls Try.prog 77 #[.pointer (some ⟨l,0,none⟩),.int .i64 e0] w λe w'=>e = .returned (.int .i64 e0)/\IsWl w' A L l d (jP s e0)/\Only L w w':=by
 obtain ⟨⟨vr,ve,h1,h2⟩,h3,h4⟩:=h;have hc2:w.cell? ⟨l,2,none⟩=some (.bool s.done):=by rw [af h1];rfl
 have hz2:=aO h1 2;have hfin:∀b:Bool,b=(s.done || !(e0==0))->IsWl (w.setCell ⟨l,2,none⟩ (.bool b)) A L l d (jP s e0)/\Only L w (w.setCell ⟨l,2,none⟩ (.bool b)):=by
  intro b hb;have ho:Only [l] w (w.setCell ⟨l,2,none⟩ (.bool b)):=(Only.refl _ _).setCell (by simp) _;refine ⟨⟨⟨vr,ve,?_,h2.only_l ho h1 (hA _ h3)⟩,h3,λx hx=>aH (h4 x hx) ho.size⟩,ho.mono (by simpa using h3)⟩;have:=aZ h1 2 (.bool b);rw [hb] at this ⊢;exact this
 have HF:=ab hfin;clear h1 h2 h3 h4 hfin;generalize s.done=dn at *;cases dn with
 | true =>
  go_enter Try.func77,Try.ntmps77
  go_wp2_with fail
  go_ret
  obtain ⟨f1,f2⟩:=HF.out true (by simp);exact ⟨rfl,f1,f2⟩
 | false =>
  by_cases h0:e0=0
  ·have hb:(e0 != 0)=false:=by simpa using h0
   have HE:Hid ((e0==0)=true):=ab (by simpa using h0);clear h0;go_enter Try.func77,Try.ntmps77
   go_wp2_with fail
   go_ret
   obtain ⟨f1,f2⟩:=HF.out false (by rw [HE.out];rfl);exact ⟨rfl,f1,f2⟩
  ·have hb:(e0 != 0)=true:=by simpa using h0
   have HE:Hid ((e0==0)=false):=ab (by simpa using h0);clear h0;go_enter Try.func77,Try.ntmps77
   go_wp2_with fail
   go_ret
   obtain ⟨f1,f2⟩:=HF.out true (by rw [HE.out];rfl);exact ⟨rfl,f1,f2⟩
theorem wK (recs:List (List UInt8)) (i:Nat) (hi:i<recs.length):(cP recs).getD i 0=((F.aL (recs.take (i+1))).length:Int):=by
 simp [cP,hi]
theorem yg (h:IsWl w A L l d s) (n:Nat) (hn:n<=s.recs.length) (hb:s.recs.length<=1000000000):Calls Try.prog 81 #[.pointer (some ⟨l,0,none⟩),.int .i64 (n:Int)] w λe w'=>e = .returned (.int .i64 ((F.aL (s.recs.take n)).length:Int))/\w=w':=by
 obtain ⟨⟨vr,ve,h1,_,h2,_⟩,_⟩:=h;by_cases h0:n=0
 ·subst h0;clear h1 h2;go_enter Try.func81,Try.ntmps81
  go_wp2_with fail
  go_ret
  exact ⟨rfl,rfl⟩
 ·obtain ⟨j,rfl⟩:∃j,n=j+1:=⟨n - 1,by omega⟩
  obtain ⟨ao,c,rfl,hi⟩:=h2.isI;rw [fi] at hi;have hat:=wK s.recs j (by omega);have hc5:w.cell? ⟨l,5,none⟩=some (.slice ao (cP s.recs).length c):=by rw [af h1];rfl
  rw [fi] at hc5;rcases hi.at_ with h3 | ⟨b,off,rfl,h4⟩
  ·omega
  have hce:=h4 j (by omega);rw [hat] at hce;have g0:(((j+1:Nat):Int)==0)=false:=by rw [be];omega
  have q1:IntKind.i64.wrap (((j+1:Nat):Int) - 1)=(j:Int):=by rw [IntWalk.i64_in _ (by omega)];omega
  have hjl:(j:Int)<(s.recs.length:Int):=by omega
  clear h1 h2 hi h4 hat h0;generalize (F.aL (s.recs.take (j+1))).length=fl at *;generalize s.recs.length=n9 at *;go_enter Try.func81,Try.ntmps81
  go_wp2_with fail
  go_ret
  exact ⟨rfl,rfl⟩
end
structure WD (w:World) (A D L:List Nat) (l d:Nat) (s:Wl) (k:Dk):Prop where
 wl:IsWl w A L l d s
 dk:IsDk w D d k
 dis:Dis D L
 dA:∀b∈D,b∈A
 lA:∀b∈L,b∈A
 alt:∀b∈A,b<w.heap.size
section
variable {w:World} {A D L:List Nat} {l d:Nat} {s:Wl} {k:Dk}
theorem WD.below {w':World} (h:WD w A D L l d s k) (hb:Below w.heap.size w w'):WD w' A D L l d s k :=
 ⟨h.wl.below hb,h.dk.below hb,h.dis,h.dA,h.lA,λb hb2=>aH (h.alt b hb2) hb.size⟩
theorem WD.drewN (h:WD w A D L l d s k) (q:Nat):WD (w.drewN q) A D L l d s k:=h.below ⟨rfl,rfl,rfl,ah _,λ_ _=>rfl⟩
theorem WD.only_L {w':World} {s':Wl} (h:WD w A D L l d s k) (hw:IsWl w' A L l d s') (ho:Only L w w'):WD w' A D L l d s' k :=
 ⟨hw,h.dk.keep ho h.dis,h.dis,h.dA,h.lA,λb hb=>aH (h.alt b hb) ho.size⟩
theorem WD.only_D {w':World} {k':Dk} (h:WD w A D L l d s k) (hk:IsDk w' D d k') (ho:Only D w w'):WD w' A D L l d s k' :=
 ⟨h.wl.keep ho h.dis.symm h.dA (Ext.refl _ _),hk,h.dis,h.dA,h.lA,λb hb=>aH (h.alt b hb) ho.size⟩
def fO (s:Wl) (k:Dk):Int×Wl×Dk :=
 if lj s k then (10,jP s 10,k) else match k.file with | none=>(0,s,k) | some (l,_)=>(0,jP s 0,{ k with file:=some (l,l.length)})
theorem qZ {s:Wl} {k:Dk} (h:lj s k=false):k.off=false:=by
 unfold lj at h;simp at h;exact h.2.2
set_option maxHeartbeats 1000000 in
theorem uX (h:WD w A D L l d s k):Calls Try.prog 67 #[.pointer (some ⟨l,0,none⟩)] w λe w'=>e = .returned (.int .i64 (fO s k).1)/\WD w' A D L l d (fO s k).2.1 (fO s k).2.2/\Only (D++L) w w':=by
 have H:=ab h;have HOF:=ab (pS h.wl h.dk);have hc0:w.cell? ⟨l,0,none⟩=some (.pointer (some ⟨d,0,none⟩)):=by
  obtain ⟨⟨vr,ve,h1,_⟩,_⟩:=h.wl;rw [af h1];rfl
 clear h;unfold fO;cases hoff:lj s k with
 | true =>
  rw [hoff] at HOF;clear hoff;go_enter Try.func67,Try.ntmps67
  go_wp2_with fail
  refine HOF.out.mono ?_;rintro e w1 ⟨rfl,q,rfl⟩;have H1:=ab (H.out.drewN q);have HO1:Hid (Only (D++L) w (w.drewN q)):=ab ((Only.refl _ _).drewN q);generalize w.drewN q=W at *;go_wp2_with fail
  refine (iW H1.out.wl H1.out.lA 10).mono ?_;rintro e w2 ⟨rfl,hw2,ho2⟩;have H2:=ab (H1.out.only_L hw2 ho2);have HO2:=ab (HO1.out.trans (ho2.mono (λb hb=>by simp [hb])));clear hw2 ho2;go_wp2_with fail
  go_ret
  exact ⟨rfl,H2.out,HO2.out⟩
 | false =>
  rw [hoff] at HOF;have HKO:=ab (qZ hoff);clear hoff;cases hf:k.file with
  | none =>
   have HFL:=ab hf;clear hf;go_enter Try.func67,Try.ntmps67
   go_wp2_with fail
   refine HOF.out.mono ?_;rintro e w1 ⟨rfl,q,rfl⟩;have H1:=ab (H.out.drewN q);have HO1:Hid (Only (D++L) w (w.drewN q)):=ab ((Only.refl _ _).drewN q);have hc1:(w.drewN q).cell? ⟨l,0,none⟩=some (.pointer (some ⟨d,0,none⟩)):=hc0;generalize w.drewN q=W at *;go_wp2_with fail
   refine (AP H1.out.dk HKO.out HFL.out).mono ?_;rintro e w2 ⟨rfl,hb2⟩;have H2:=ab (H1.out.below hb2);have HO2:=ab (HO1.out.trans (Only.ofBelow hb2 (D++L)));clear hb2;go_wp2_with fail
   go_ret
   exact ⟨rfl,H2.out,HO2.out⟩
  | some p =>
   obtain ⟨bl,kk⟩:=p;have HFL:=ab hf;clear hf;go_enter Try.func67,Try.ntmps67
   go_wp2_with fail
   refine HOF.out.mono ?_;rintro e w1 ⟨rfl,q,rfl⟩;have H1:=ab (H.out.drewN q);have HO1:Hid (Only (D++L) w (w.drewN q)):=ab ((Only.refl _ _).drewN q);have hc1:(w.drewN q).cell? ⟨l,0,none⟩=some (.pointer (some ⟨d,0,none⟩)):=hc0;generalize w.drewN q=W at *;go_wp2_with fail
   refine (ys H1.out.dk HKO.out HFL.out).mono ?_;rintro e w2 ⟨rfl,hd2,ho2⟩;have H2:=ab (H1.out.only_D hd2 ho2);have HO2:=ab (HO1.out.trans (ho2.mono (λb hb=>by simp [hb])));clear hd2 ho2;go_wp2_with fail
   refine (iW H2.out.wl H2.out.lA 0).mono ?_;rintro e w3 ⟨rfl,hw3,ho3⟩;have H3:=ab (H2.out.only_L hw3 ho3);have HO3:=ab (HO2.out.trans (ho3.mono (λb hb=>by simp [hb])));clear hw3 ho3;go_wp2_with fail
   go_ret
   exact ⟨rfl,H3.out,HO3.out⟩
set_option maxHeartbeats 1000000 in
theorem De (h:WD w A D L l d s k) (hoff:lj s k=false) (n:Nat) (hn:n<s.recs.length) (hb:s.recs.length<=1000000000) (hr:(s.recs.getD n []).length<=1048576) :
  Calls Try.prog 62 #[.pointer (some ⟨l,0,none⟩),.int .i64 ((n:Int)+1)] w λe w'=>∃v,e = .returned (.tuple #[v,.int .i64 0])/\OwnB w' w.heap.size 5 v (s.recs.getD n [])/\Below w.heap.size w w':=by
 have H:=ab h;have HOF:=ab (pS h.wl h.dk);rw [hoff] at HOF;obtain ⟨⟨vr,ve,h1,⟨us,hu,hru,him⟩,_⟩,_⟩:=h.wl;obtain ⟨ao,c,e1,hi,_,_⟩:=him n hn;have hgu:=hru;rcases hru.2 with ⟨_,h0⟩ | ⟨g,cap,cur,rfl,_,hg,hgn,hgm,hgs,hgt⟩
 ·omega
 have hcell:w.cell? ⟨g,n,none⟩=some (.slice ao (s.recs.getD n []).length c):=by
  have:=World.ownsRow.cellAt hgu n (by omega);rw [this,<-e1];have hun:n<us.length:=by omega
  simp [List.getD,hun]
 have hc4:w.cell? ⟨l,4,none⟩=some (.slice (some ⟨g,0,none⟩) s.recs.length cap):=by rw [af h1];rfl
 have hc3:w.cell? ⟨l,3,none⟩=some (.int .i64 1):=by rw [af h1];rfl
 have HNX:=ab (λq=>lm (h.wl.below (w':=w.drewN q) ⟨rfl,rfl,rfl,ah _,λ_ _=>rfl⟩) hb);have HI:=ab hi;have g1:decide ((n:Int)+1<1)=false:=bq (by omega);have g2:decide (1+(s.recs.length:Int)<=(n:Int)+1)=false:=bq (by omega);have q1:IntKind.i64.wrap (n:Int)=(n:Int):=IntWalk.i64_in _ (by omega);have hni:(n:Int)<(s.recs.length:Int):=by omega
 have HFIN:Hid (s.recs.getD n []=s.recs.getD n []):=ab rfl;clear h h1 hu hru him hgu hg hgs hgt hgn hgm e1 hi hoff HFIN;generalize s.recs.getD n []=rl at *;generalize s.recs.length=N at *;go_enter Try.func62,Try.ntmps62
 go_wp2_with fail
 refine HOF.out.mono ?_;rintro e w1 ⟨rfl,q,rfl⟩;go_wp2_with fail
 refine (HNX.out q).mono ?_;rintro e w2 ⟨rfl,q2,rfl⟩;go_upto_region 5 with (fail)
 have HBW:Hid (Below w.heap.size w (w.drewN (q+q2))):=ab ⟨rfl,rfl,rfl,ah _,λ_ _=>rfl⟩;have hk4:(w.drewN (q+q2)).cell? ⟨l,4,none⟩=some (.slice (some ⟨g,0,none⟩) N cap):=hc4;have hk3:(w.drewN (q+q2)).cell? ⟨l,3,none⟩=some (.int .i64 1):=hc3;have hkg:(w.drewN (q+q2)).cell? ⟨g,n,none⟩=some (.slice ao rl.length c):=hcell;have HI2:Hid (IsB (w.drewN (q+q2)) ao rl.length c rl):=ab (HI.out.below HBW.out);clear hc4 hc3 hcell HI;generalize (w.drewN (q+q2))=W at *;have hr4:∀w',Below W.heap.size W w'->w'.cell? ⟨l,4,none⟩=some (.slice (some ⟨g,0,none⟩) N cap):=λw' hb=>cell_later hb hk4;have hr3:∀w',Below W.heap.size W w'->w'.cell? ⟨l,3,none⟩=some (.int .i64 1):=λw' hb=>cell_later hb hk3;have hrg:∀w',Below W.heap.size W w'->w'.cell? ⟨g,n,none⟩=some (.slice ao rl.length c):=λw' hb=>cell_later hb hkg;have HI:Hid (∀w',Below W.heap.size W w'->IsB w' ao rl.length c rl):=ab λw' hb=>HI2.out.below hb;clear hk4 hk3 hkg;refine wp_region_held_drew (S:=λw'=>Below W.heap.size W w') (by kernel_rfl) (cB W) (λam=>?_);refine az 0 ?_;refine az 1 ?_;refine az 2 ?_;refine az 3 ?_;refine az 4 ?_;refine az 5 ?_;refine az 6 ?_;refine az 7 ?_;refine az 8 ?_;refine az 9 ?_;refine az 10 ?_;refine az 11 ?_;refine cf 12 λK hK=>?_;go_simp
 refine (F.dJ ao rl.length c rl _ (HI.out _ (by exact cB W)) (by omega)).mono ?_;rintro e w5 ⟨v5,rfl,ho5,hb5⟩;have HB5:=ab ((cB W).trans hb5);have HO5:=ab ho5;have hh5:Below W.heap.size W w5:=(cB W).trans hb5;clear ho5 hb5;go_wp2_with fail
 refine hK.out _ _ hh5 (λam=>?_);clear hK K;refine bu ?_;clear hh5;refine az 13 ?_;refine az 14 ?_;refine fc ?_;go_wp2_with fail
 go_ret2
 exact ⟨v5,rfl,HO5.out.mono (show w.heap.size<=W.drew.heap.size from HBW.out.size),HBW.out.trans (HB5.out.mono HBW.out.size)⟩
end
end Go.Proofs.Ytnicaicjgaoolaa
