/-
  What the proof of the law leans on: contracts of the program's functions, one behind another. No condition.
-/
import Derived.Test.YtnicaicjgaoolaaT4
import Derived.Test.YtnicaicjgaoolaaT3
import Derived.Test.YtnicaicjgaoolaaT2
set_option linter.unusedVariables false
set_option linter.unusedSimpArgs false
namespace Go.Proofs.Ytnicaicjgaoolaa
open Go.RowKit

theorem rI_be8 (z:Int) (rest:List UInt8) (bad:Bool) (h1 : -9223372036854775808≤z) (h2:z≤9223372036854775807):rI (be8 z++rest) bad=⟨z,rest,bad⟩:=by
 unfold rI
 rw [if_neg (by rw [List.length_append,be8_len];omega),val8_be8 z rest h1 h2]
 rfl
theorem rC_be8 (z:Int) (rest:List UInt8) (bad:Bool) (most:Int) (h0:0≤z) (h1:z≤most) (h2:most≤9223372036854775807):rC (be8 z++rest) bad most=⟨z,rest,bad⟩:=by
 unfold rC;rw [rI_be8 z rest bad (by omega) (by omega),if_neg (by simp only;omega)]
theorem strB_list (s:ByteArray):strB s.data.toList=s:=by unfold strB;simp
theorem rT_txt (s:ByteArray) (rest:List UInt8) (bad:Bool) (most:Int) (h1:(s.size:Int)≤most) (h2:most≤9223372036854775807):rT (txt s++rest) bad most=⟨s,rest,bad⟩:=by
 unfold rT txt
 rw [List.append_assoc,rC_be8 _ _ bad most (by omega) h1 h2,if_neg (by simp only [List.length_append,size_list];omega)]
 simp only [Int.toNat_natCast]
 rw [←size_list s,List.take_left,List.drop_left,strB_list]

end Go.Proofs.Ytnicaicjgaoolaa
namespace Go.Proofs.Ytnicaicjgaoolaa
open Go.RowKit Go.ChangeMaps Go.WideMaps Go.Maps
set_option maxRecDepth 20000
theorem new_ok (w:World):Calls Try.prog 20 #[.int .i64 1048576] w fun e w'=>∃d D,e = .returned (.tuple #[.pointer (some ⟨d,0,none⟩),.int .i64 0])∧IsDk w' D d ⟨1048576,false,1,none⟩∧Below w.heap.size w w'∧∀b∈D,w.heap.size≤b:=by
 have hb1:Below w.heap.size w (w.alloc (.map #[] 0)):=(Below.refl _ _).alloc (Nat.le_refl _) _
 have hb2:Below w.heap.size w ((w.alloc (.map #[] 0)).alloc (.cells #[.int .i64 1048576,.bool false,.int .i64 1,.map (some w.heap.size)] 79)):=hb1.alloc (by simp) _
 have hm:=heap_old (heap_new w (.map #[] 0)) (.cells #[.int .i64 1048576,.bool false,.int .i64 1,.map (some w.heap.size)] 79)
 have hd:=heap_new (w.alloc (.map #[] 0)) (.cells #[.int .i64 1048576,.bool false,.int .i64 1,.map (some w.heap.size)] 79)
 rw [show (w.alloc (.map #[] 0)).heap.size=w.heap.size+1 by simp] at hd
 have hsz:((w.alloc (.map #[] 0)).alloc (.cells #[.int .i64 1048576,.bool false,.int .i64 1,.map (some w.heap.size)] 79)).heap.size=w.heap.size+2:=by simp
 have HB:=Lib.hid hb2;have HM:=Lib.hid hm;have HD:=Lib.hid hd;have HS:=Lib.hid hsz
 clear hb1 hb2 hm hd hsz
 have hmk:∀w:World,(Instr.makeMap 77 none).run Try.prog w = .ok (.map (some w.heap.size)) (w.alloc (.map #[] 0)):=fun w=>by simp [Instr.makeMap,run_underlying Try.underlying77,Result.andThen]
 go_enter Try.func20,Try.ntmps20
 go_wp2_with fail
 go_ret2
 have hsz:=HS.out
 refine ⟨w.heap.size+1,[w.heap.size+1,w.heap.size],by simp,⟨⟨w.heap.size,HD.out,by simp,0,HM.out⟩,by simp,fun b hb=>?_⟩,HB.out,fun b hb=>?_⟩
 ·simp at hb
  rcases hb with rfl | rfl<;>omega
 ·simp at hb
  rcases hb with rfl | rfl<;>omega
end Go.Proofs.Ytnicaicjgaoolaa
namespace Go.Proofs.Ytnicaicjgaoolaa
open Go.RowKit Go.ChangeMaps Go.WideMaps Go.Maps
set_option maxRecDepth 20000
section
variable (p:String)
def z02x0:Oper:=⟨some 31,.move (.tmp 7),84,p,#[],none⟩
def z02x1:Oper:=⟨some 32,.move (.tmp 7),84,p,#[⟨17,.gcOnly Departure.lateStores⟩],none⟩
def z02x2:Oper:=⟨some 33,.move (.tmp 7),84,p,#[],none⟩
def z02x3:Oper:=⟨some 34,.nilCheck (.tmp 33),0,p,#[⟨2,.data⟩],none⟩
def z02x4:Oper:=⟨some 35,.fieldAddr 86 (.tmp 34) 0,0,p,#[⟨3,.data⟩],none⟩
def z02x5:Oper:=⟨some 37,.move (.tmp 2),3,p,#[],none⟩
def z02x6:Oper:=⟨some 40,.move (.tmp 7),84,p,#[],none⟩
def z02x7:Oper:=⟨some 41,.nilCheck (.tmp 40),0,p,#[⟨9,.data⟩],none⟩
def z02x8:Oper:=⟨some 42,.fieldAddr 86 (.tmp 41) 1,0,p,#[⟨10,.data⟩],none⟩
def z02x9:Oper:=⟨some 44,.move (.tmp 2),3,p,#[],none⟩
def z02x10:Oper:=⟨some 36,.load 29 (.tmp 35),29,p,#[⟨4,.data⟩],none⟩
def z02x11:Oper:=⟨some 43,.load 3 (.tmp 42),3,p,#[⟨11,.data⟩],none⟩
def z02x12:Oper:=⟨some 38,.slice 29 (.tmp 36) none (some (.tmp 37)) none,29,p,#[⟨5,.data⟩,⟨6,.data⟩],none⟩
def z02x13:Oper:=⟨some 39,.call { callee:=Callee.value (Operand.func 26),args:=#[.tmp 38],argTypes:=#[29]},29,p,#[⟨7,.data⟩],none⟩
def z02x14:Oper:=⟨some 45,.call { callee:=Callee.builtin Builtin.min,args:=#[.tmp 43,.tmp 44],argTypes:=#[3,3]},3,p,#[⟨12,.data⟩,⟨13,.data⟩],none⟩
def z02x15:Oper:=⟨some 46,.nilCheck (.tmp 31),0,p,#[⟨0,.data⟩,⟨0,.phase⟩,⟨1,.textOnly Departure.lateStores⟩,⟨2,.phase⟩,⟨3,.phase⟩,⟨4,.phase⟩,⟨5,.phase⟩,⟨6,.phase⟩,⟨7,.phase⟩,⟨8,.phase⟩,⟨9,.textOnly Departure.lateStores⟩,⟨10,.textOnly Departure.lateStoresUnsure⟩,⟨11,.textOnly Departure.lateStoresUnsure⟩,⟨12,.phase⟩,⟨13,.textOnly Departure.lateStores⟩,⟨14,.textOnly Departure.lateStoresUnsure⟩],none⟩
def z02x16:Oper:=⟨some 47,.fieldAddr 86 (.tmp 46) 0,0,p,#[⟨15,.data⟩,⟨0,.phase⟩,⟨1,.textOnly Departure.lateStores⟩,⟨2,.phase⟩,⟨3,.phase⟩,⟨4,.phase⟩,⟨5,.phase⟩,⟨6,.phase⟩,⟨7,.phase⟩,⟨8,.phase⟩,⟨9,.textOnly Departure.lateStores⟩,⟨10,.textOnly Departure.lateStoresUnsure⟩,⟨11,.textOnly Departure.lateStoresUnsure⟩,⟨12,.phase⟩,⟨13,.textOnly Departure.lateStores⟩,⟨14,.textOnly Departure.lateStoresUnsure⟩],none⟩
def z02x17:Oper:=⟨none,.store 29 (.tmp 47) (.tmp 39),0,p,#[⟨16,.data⟩,⟨8,.data⟩,⟨8,.chain⟩,⟨0,.phase⟩,⟨1,.textOnly Departure.lateStores⟩,⟨2,.phase⟩,⟨3,.phase⟩,⟨4,.phase⟩,⟨5,.phase⟩,⟨6,.phase⟩,⟨7,.phase⟩,⟨8,.phase⟩,⟨9,.textOnly Departure.lateStores⟩,⟨10,.textOnly Departure.lateStoresUnsure⟩,⟨11,.textOnly Departure.lateStoresUnsure⟩,⟨12,.phase⟩,⟨13,.textOnly Departure.lateStores⟩,⟨14,.textOnly Departure.lateStoresUnsure⟩],none⟩
def z02x18:Oper:=⟨some 48,.nilCheck (.tmp 32),0,p,#[⟨1,.data⟩,⟨0,.phase⟩,⟨1,.phase⟩,⟨2,.phase⟩,⟨3,.phase⟩,⟨4,.phase⟩,⟨5,.phase⟩,⟨6,.phase⟩,⟨7,.phase⟩,⟨8,.phase⟩,⟨9,.phase⟩,⟨10,.phase⟩,⟨11,.phase⟩,⟨12,.phase⟩,⟨13,.phase⟩,⟨14,.phase⟩,⟨15,.phase⟩,⟨16,.phase⟩,⟨17,.phase⟩],none⟩
def z02x19:Oper:=⟨some 49,.fieldAddr 86 (.tmp 48) 1,0,p,#[⟨18,.data⟩,⟨0,.phase⟩,⟨1,.phase⟩,⟨2,.phase⟩,⟨3,.phase⟩,⟨4,.phase⟩,⟨5,.phase⟩,⟨6,.phase⟩,⟨7,.phase⟩,⟨8,.phase⟩,⟨9,.phase⟩,⟨10,.phase⟩,⟨11,.phase⟩,⟨12,.phase⟩,⟨13,.phase⟩,⟨14,.phase⟩,⟨15,.phase⟩,⟨16,.phase⟩,⟨17,.phase⟩],none⟩
def z02x20:Oper:=⟨none,.store 3 (.tmp 49) (.tmp 45),0,p,#[⟨19,.data⟩,⟨14,.data⟩,⟨17,.chain⟩,⟨0,.phase⟩,⟨1,.phase⟩,⟨2,.phase⟩,⟨3,.phase⟩,⟨4,.phase⟩,⟨5,.phase⟩,⟨6,.phase⟩,⟨7,.phase⟩,⟨8,.phase⟩,⟨9,.phase⟩,⟨10,.phase⟩,⟨11,.phase⟩,⟨12,.phase⟩,⟨13,.phase⟩,⟨14,.phase⟩,⟨15,.phase⟩,⟨16,.phase⟩,⟨17,.phase⟩],none⟩
end
attribute [go_sem,reducible] z02x0 z02x1 z02x2 z02x3 z02x4 z02x5 z02x6 z02x7 z02x8 z02x9 z02x10 z02x11 z02x12 z02x13 z02x14 z02x15 z02x16 z02x17 z02x18 z02x19 z02x20
theorem z02xm0 {p:Prop} (h:p:=by
 refine qtl 15 (z02x15 _) rfl ?_
 refine qtl 16 (z02x16 _) rfl ?_
 refine qr1 17 (z02x17 _) rfl fun K hK=>?_
 unfold z02x17
 have hy0:w5.cell? ⟨fb,0,none⟩=some (.slice ao l.length c):=by rw [cell_heap HF5.out];rfl
 have hz0:=free_heap HF5.out 0
 obtain ⟨a5,c5,rfl,_⟩:=HO5.out.isB
 have hlk:(l.take n).length=n:=by rw [List.length_take];omega
 rw [hlk] at HO5 HO5V
 go_simp
 clear hy0 hz0 hlk
 have HF6:=Lib.hid (heap_set HF5.out 0 (.slice a5 n c5))
 refine hK.out _ _ trivial (fun hHeld=>?_)
 clear hK K
 refine qsp ?_
 refine qtl 18 (z02x18 _) rfl ?_
 refine qtl 19 (z02x19 _) rfl ?_
 refine qr1 20 (z02x20 _) rfl fun K hK=>?_
 unfold z02x20
 have hy1:(w5.setCell ⟨fb,0,none⟩ (.slice a5 n c5)).cell? ⟨fb,1,none⟩=some (.int .i64 (k:Int)):=by rw [cell_heap HF6.out];rfl
 have hz1:=free_heap HF6.out 1
 go_simp
 clear hy1 hz1
 refine hK.out _ _ trivial (fun hHeld=>?_)
 clear hK K
 refine qsp ?_
 refine qdn ?_
 go_wp2_with fail
 go_meet
 exact ⟨w5,a5,c5,rfl,HO5.out,HB5.out,HO5V.out⟩):p:=h
theorem z02xm1 {p:Prop} (h:p:=by
 refine qr1 8 (z02x13 _) rfl fun K hK=>?_
 unfold z02x13
 go_simp
 refine (F.clone_any ao n c (l.take n) _ HIV.out (by omega)).mono ?_
 rintro e w5 ⟨v5,rfl,ho5,hb5⟩
 have HB5:=Lib.hid hb5
 have HO5:=Lib.hid (ho5.mono (Nat.zero_le _))
 have HO5V:=Lib.hid ho5
 have HF5:=Lib.hid (heap_below3 hb5 (lt_of_heap HFV.out) HFV.out)
 clear ho5 hb5
 go_wp2_with fail
 refine hK.out _ _ trivial (fun hHeld=>?_)
 clear hK K
 refine qsp ?_
 exact z02xm0):p:=h
section
variable {w:World} {D:List Nat} {d:Nat} {s:Dk}
set_option maxHeartbeats 2000000 in
theorem cut_any (h:IsDk w D d s) (ho:s.off=false) {l:List UInt8} {k:Nat} (hf:s.file=some (l,k)) (n:Nat) (hn:n≤l.length) (hl:l.length≤1048576) (hk:k≤l.length) :
  Calls Try.prog 58 #[.pointer (some ⟨d,0,none⟩),.string logA,.int .i64 (n:Int)] w fun e w'=>∃D',e = .returned (.int .i64 0)∧IsDk w' D' d { s with file:=some (l.take n,min k n)}∧Moves D D' w w':=by
 obtain ⟨mb,cc,fb,b0,v,hp⟩:=h.parts hf
 have HF:=Lib.hid (find_yes hp hf ho)
 have HP:=Lib.hid hp
 have hnl:(n:Int)≤(l.length:Int):=by omega
 have g1:decide (l.length<n)=false:=decide_eq_false (by omega)
 have g2:decide ((n:Int)<0)=false:=decide_eq_false (by omega)
 clear h hp
 go_enter Try.func58,Try.ntmps58
 go_wp2_with fail
 refine HF.out.mono ?_
 rintro e W ⟨rfl,hb⟩
 have HB:=Lib.hid hb
 have HP1:=Lib.hid (HP.out.below hb)
 obtain ⟨ao,c,e1,hi⟩:=HP1.out.ho.isB
 subst e1
 have hc:W.cell? ⟨fb,0,none⟩=some (.slice ao l.length c):=by rw [cell_heap HP1.out.hf];rfl
 have hkc:n≤c:=Nat.le_trans hn (own_cap HP1.out.ho)
 have HIV:Hid (IsB W.drew ao n c (l.take n)):=Lib.hid ((isB_take0 hi hn).below (below_drew1 W))
 have HFV:Hid (W.drew.heap[fb]? = some (.cells #[.slice ao l.length c,.int .i64 (k:Int)] 86 (0,0))):=Lib.hid HP1.out.hf
 have HPV:=Lib.hid (HP1.out.below (below_drew1 W))
 have HBV:Hid (Below w.heap.size w W.drew):=Lib.hid (hb.trans ((below_drew1 W).mono hb.size))
 clear hb hi
 go_upto_region 6 with (fail)
 clear hc
 go_cut [] (fun wx=>∃w5 a5 c5,wx=(w5.setCell ⟨fb,0,none⟩ (.slice a5 n c5)).setCell ⟨fb,1,none⟩ (.int .i64 (min (k:Int) (n:Int)))∧OwnB w5 0 5 (.slice a5 n c5) (l.take n)∧Below W.drew.heap.size W.drew w5∧OwnB w5 W.drew.heap.size 5 (.slice a5 n c5) (l.take n))
 case first =>
  refine wp_region_held_drew (S:=fun _=>True) (by kernel_rfl) trivial (fun hHeld=>?_)
  refine qtl 0 (z02x0 _) rfl ?_
  refine qtl 1 (z02x1 _) rfl ?_
  refine qtl 2 (z02x2 _) rfl ?_
  refine qtl 3 (z02x3 _) rfl ?_
  refine qtl 4 (z02x4 _) rfl ?_
  refine qtl 6 (z02x5 _) rfl ?_
  refine qtl 9 (z02x6 _) rfl ?_
  refine qtl 10 (z02x7 _) rfl ?_
  refine qtl 11 (z02x8 _) rfl ?_
  refine qtl 13 (z02x9 _) rfl ?_
  generalize W.drew=V at *
  refine qr2 5 12 (z02x10 _) (z02x11 _) rfl rfl (fun K hK=>?_) fun K hK=>?_
  ·unfold z02x10
   have hy0:V.cell? ⟨fb,0,none⟩=some (.slice ao l.length c):=by rw [cell_heap HFV.out];rfl
   go_simp
   clear hy0
   refine hK.out _ _ trivial (fun hHeld=>?_)
   clear hK K
   refine qsp ?_
   refine qtl 7 (z02x12 _) rfl ?_
   refine qr2 8 12 (z02x13 _) (z02x11 _) rfl rfl (fun K hK=>?_) fun K hK=>?_
   ·unfold z02x13
    go_simp
    refine (F.clone_any ao n c (l.take n) _ HIV.out (by omega)).mono ?_
    rintro e w5 ⟨v5,rfl,ho5,hb5⟩
    have HB5:=Lib.hid hb5
    have HO5:=Lib.hid (ho5.mono (Nat.zero_le _))
    have HO5V:=Lib.hid ho5
    have HF5:=Lib.hid (heap_below3 hb5 (lt_of_heap HFV.out) HFV.out)
    clear ho5 hb5
    go_wp2_with fail
    refine hK.out _ _ trivial (fun hHeld=>?_)
    clear hK K
    refine qsp ?_
    refine qr1 12 (z02x11 _) rfl fun K hK=>?_
    unfold z02x11
    have hy1:w5.cell? ⟨fb,1,none⟩=some (.int .i64 (k:Int)):=by rw [cell_heap HF5.out];rfl
    go_simp
    clear hy1
    refine hK.out _ _ trivial (fun hHeld=>?_)
    clear hK K
    refine qsp ?_
    refine qtl 14 (z02x14 _) rfl ?_
    exact z02xm0
   ·unfold z02x11
    have hy1:V.cell? ⟨fb,1,none⟩=some (.int .i64 (k:Int)):=by rw [cell_heap HFV.out];rfl
    go_simp
    clear hy1
    refine hK.out _ _ trivial (fun hHeld=>?_)
    clear hK K
    refine qsp ?_
    refine qtl 14 (z02x14 _) rfl ?_
    exact z02xm1
  ·unfold z02x11
   have hy1:V.cell? ⟨fb,1,none⟩=some (.int .i64 (k:Int)):=by rw [cell_heap HFV.out];rfl
   go_simp
   clear hy1
   refine hK.out _ _ trivial (fun hHeld=>?_)
   clear hK K
   refine qsp ?_
   refine qtl 14 (z02x14 _) rfl ?_
   refine qr1 5 (z02x10 _) rfl fun K hK=>?_
   unfold z02x10
   have hy0:V.cell? ⟨fb,0,none⟩=some (.slice ao l.length c):=by rw [cell_heap HFV.out];rfl
   go_simp
   clear hy0
   refine hK.out _ _ trivial (fun hHeld=>?_)
   clear hK K
   refine qsp ?_
   refine qtl 7 (z02x12 _) rfl ?_
   exact z02xm1
 case rest =>
  obtain ⟨w5,a5,c5,rfl,ho5,hb5,ho5v⟩:=hcut
  have hp5:=HPV.out.below hb5
  have o9:Only [fb] w5 ((w5.setCell ⟨fb,0,none⟩ (.slice a5 n c5)).setCell ⟨fb,1,none⟩ (.int .i64 (min (k:Int) (n:Int)))):=((Only.refl _ _).setCell (by simp) _).setCell (by simp) _
  have hf9:=heap_set (heap_set hp5.hf 0 (.slice a5 n c5)) 1 (.int .i64 (min (k:Int) (n:Int)))
  have hlt5:=own_ltB ho5
  have hmin:((min k n:Nat):Int)=min (k:Int) (n:Int):=by omega
  have hp9:=hp5.set (k':=min k n) (D':=D++(Value.slice a5 n c5).ownBlock.toList) (s':={ s with file:=some (l.take n,min k n)}) o9 (by rw [hmin];exact hf9) ho5 (fun b hb=>by simp [hb]) (fun j hj=>by simp [hj]) (fun b hb=>by
    simp only [List.mem_append,Option.mem_toList] at hb
    rcases hb with hb | hb
    ·exact hp5.lt b hb
    ·exact hlt5 b hb) ⟨rfl,rfl,rfl⟩
  have HD9:=Lib.hid (hp9.dk rfl)
  have oall:Only D w ((w5.setCell ⟨fb,0,none⟩ (.slice a5 n c5)).setCell ⟨fb,1,none⟩ (.int .i64 (min (k:Int) (n:Int)))):=(Only.ofBelow (HBV.out.trans (hb5.mono HBV.out.size)) D).trans (o9.mono (by simpa using HPV.out.fD))
  have HM9:Hid (Moves D (D++(Value.slice a5 n c5).ownBlock.toList) w ((w5.setCell ⟨fb,0,none⟩ (.slice a5 n c5)).setCell ⟨fb,1,none⟩ (.int .i64 (min (k:Int) (n:Int))))):=Lib.hid ⟨oall,fun b hb=>by
    simp only [List.mem_append,Option.mem_toList] at hb
    rcases hb with hb | hb
    ·exact .inl hb
    ·exact .inr (Nat.le_trans HBV.out.size (ho5v.lt b hb).1),fun b hb=>by simp [hb]⟩
  clear hp5 o9 hf9 hlt5 hmin hp9 oall ho5 ho5v hb5
  go_wp2_with fail
  go_ret
  exact ⟨_,rfl,HD9.out,HM9.out⟩
end
end Go.Proofs.Ytnicaicjgaoolaa
namespace Go.Proofs.Ytnicaicjgaoolaa.F
open Go.Proofs.Ytnicaicjgaoolaa
open Go.RowKit

theorem b4_nat (c:BitVec 32) (i:Nat):(b4 c i).toNat=c.toNat / 2 ^ (8*(3 - i)) % 256:=by unfold b4;rw [UInt8.toNat_ofNat']
theorem num4_be4 (c:BitVec 32):num4 (b4 c 0) (b4 c 1) (b4 c 2) (b4 c 3)=c:=by
 apply BitVec.eq_of_toNat_eq
 rw [num4_nat,b4_nat,b4_nat,b4_nat,b4_nat]
 have:=c.isLt
 simp only [Nat.reduceMul,Nat.reduceSub,Nat.reducePow]
 omega
theorem be4_num4 (x0 x1 x2 x3:UInt8):be4 (num4 x0 x1 x2 x3)=[x0,x1,x2,x3]:=by
 have h0:=x0.toNat_lt
 have h1:=x1.toNat_lt
 have h2:=x2.toNat_lt
 have h3:=x3.toNat_lt
 have e:∀(i:Nat) (y:UInt8),(num4 x0 x1 x2 x3).toNat / 2 ^ (8*(3 - i)) % 256=y.toNat→b4 (num4 x0 x1 x2 x3) i=y:=fun i y h=>UInt8.toNat_inj.1 (by rw [b4_nat,h])
 unfold be4
 rw [e 0 x0 (by rw [num4_nat];simp only [Nat.reduceMul,Nat.reduceSub,Nat.reducePow];omega),e 1 x1 (by rw [num4_nat];simp only [Nat.reduceMul,Nat.reduceSub,Nat.reducePow];omega),
  e 2 x2 (by rw [num4_nat];simp only [Nat.reduceMul,Nat.reduceSub,Nat.reducePow];omega),e 3 x3 (by rw [num4_nat];simp only [Nat.reduceMul,Nat.reduceSub,Nat.reducePow];omega)]
theorem be4_inj {a b:BitVec 32} (h:be4 a=be4 b):a=b:=by
 unfold be4 at h
 simp only [List.cons.injEq,and_true] at h
 rw [←num4_be4 a,←num4_be4 b,h.1,h.2.1,h.2.2.1,h.2.2.2]
theorem be4_at4 (l:List UInt8) (i:Nat) (h:i+4≤l.length):be4 (at4 l i)=(l.drop i).take 4:=by
 unfold at4
 rw [be4_num4]
 apply List.ext_getElem?
 intro j
 rcases (by omega:j=0∨j=1∨j=2∨j=3∨4≤j) with rfl | rfl | rfl | rfl | h4
 ·simp [List.getElem?_take,List.getElem?_drop,show i<l.length by omega]
 ·simp [List.getElem?_take,List.getElem?_drop,show i+1<l.length by omega]
 ·simp [List.getElem?_take,List.getElem?_drop,show i+2<l.length by omega]
 ·simp [List.getElem?_take,List.getElem?_drop,show i+3<l.length by omega]
 ·rw [List.getElem?_eq_none (by simpa using h4),List.getElem?_eq_none (by simp;omega)]
theorem at4_of (l:List UInt8) (i:Nat) (c:BitVec 32) (h:(l.drop i).take 4=be4 c):at4 l i=c:=by
 apply be4_inj
 have hl:i+4≤l.length:=by
  have:=congrArg List.length h
  rw [List.length_take,List.length_drop,be4_len] at this
  omega
 rw [be4_at4 l i hl,h]

/-- what next says of a whole frame -/
theorem nextF_frame (rec rest:List UInt8) (h:rec.length≤20000):nextF (frameF rec++rest)=(12+rec.length,0):=by
 have hl:=frameF_len rec
 have hL:(frameF rec++rest).length=12+rec.length+rest.length:=by rw [List.length_append,hl]
 have e:frameF rec++rest=be4 (BitVec.ofNat 32 rec.length)++(be4 (~~~ (BitVec.ofNat 32 rec.length))++(be4 (Crc.crc (headF rec++rec))++(rec++rest))):=by
  unfold frameF headF;simp only [List.append_assoc]
 have h0:at4 (frameF rec++rest) 0=BitVec.ofNat 32 rec.length:=at4_of _ _ _ (by rw [e,List.drop_zero];rfl)
 have h4:at4 (frameF rec++rest) 4 = ~~~ (BitVec.ofNat 32 rec.length):=at4_of _ _ _ (by rw [e];rfl)
 have h8:at4 (frameF rec++rest) 8=Crc.crc (headF rec++rec):=at4_of _ _ _ (by rw [e];rfl)
 have hn:(BitVec.ofNat 32 rec.length).toNat=rec.length:=by rw [BitVec.toNat_ofNat,Nat.mod_eq_of_lt (by omega)]
 have ht:(frameF rec++rest).take 8=headF rec:=by rw [e];rfl
 have hd:((frameF rec++rest).drop 12).take rec.length=rec:=by
  have:(frameF rec++rest).drop 12=rec++rest:=by rw [e];rfl
  rw [this,List.take_left]
 unfold nextF
 rw [if_neg (by omega),h0,h4,h8,hn,if_neg (by simp only [ne_eq,not_true_eq_false,false_or];omega),if_neg (by omega),ht,hd,if_neg (by simp)]
theorem rec_of_frame (rec rest:List UInt8):((frameF rec++rest).take (12+rec.length)).drop 12=rec:=by
 have e:frameF rec++rest=(headF rec++be4 (Crc.crc (headF rec++rec)))++(rec++rest):=by unfold frameF;simp only [List.append_assoc]
 have hl:(headF rec++be4 (Crc.crc (headF rec++rec))).length=12:=rfl
 rw [List.drop_take,show 12+rec.length - 12=rec.length by omega,e,List.drop_left' hl,List.take_left]
/-- what is cut off is torn -/
theorem nextF_torn (rec:List UInt8) (h:rec.length≤20000) (j:Nat) (hj:j<12+rec.length):nextF ((frameF rec).take j)=(0,1):=by
 have hl:=frameF_len rec
 have hlt:((frameF rec).take j).length=j:=by rw [List.length_take];omega
 unfold nextF
 by_cases h12:j<12
 ·rw [if_pos (by omega)]
 ·rw [if_neg (by omega)]
  have e:frameF rec=be4 (BitVec.ofNat 32 rec.length)++(be4 (~~~ (BitVec.ofNat 32 rec.length))++(be4 (Crc.crc (headF rec++rec))++rec)):=by
   unfold frameF headF;simp only [List.append_assoc]
  have h0:at4 ((frameF rec).take j) 0=BitVec.ofNat 32 rec.length:=at4_of _ _ _ (by
   rw [List.drop_zero,List.take_take,Nat.min_eq_left (by omega),e];rfl)
  have h4:at4 ((frameF rec).take j) 4 = ~~~ (BitVec.ofNat 32 rec.length):=at4_of _ _ _ (by
   rw [List.drop_take,List.take_take,Nat.min_eq_left (by omega),e];rfl)
  have hn:(BitVec.ofNat 32 rec.length).toNat=rec.length:=by rw [BitVec.toNat_ofNat,Nat.mod_eq_of_lt (by omega)]
  rw [h0,h4,hn,if_neg (by simp only [ne_eq,not_true_eq_false,false_or];omega),if_pos (by omega)]

/-- frames, one behind the other -/
def frames (ls:List (List UInt8)):List UInt8:=ls.flatMap frameF
theorem frames_nil:frames []=[]:=rfl
theorem frames_cons (r:List UInt8) (ls:List (List UInt8)):frames (r::ls)=frameF r++frames ls:=rfl
theorem frames_append (ls ms:List (List UInt8)):frames (ls++ms)=frames ls++frames ms:=by simp [frames]

/-- records that are framed are scanned back, whatever is behind -/
theorem scanF_frames (pre rest:List UInt8) (ls acc:List (List UInt8)) (h:∀r∈ls,r.length≤20000) (t:Nat) (ht:(frames ls++rest).length≤t) :
  scanF (pre++(frames ls++rest)) t pre.length acc=scanF (pre++(frames ls++rest)) (t - (frames ls).length) (pre.length+(frames ls).length) (acc++ls):=by
 induction ls generalizing pre acc t with
 | nil=>simp [frames_nil]
 | cons r ls ih =>
  have hr:=h r (by simp)
  have hl:=frameF_len r
  have hlen:(frames (r::ls)++rest).length=12+r.length+(frames ls++rest).length:=by rw [frames_cons,List.append_assoc,List.length_append,hl]
  obtain ⟨s,rfl⟩:∃s,t=s+1:=⟨t - 1,by omega⟩
  have hd:(pre++(frames (r::ls)++rest)).drop pre.length=frameF r++(frames ls++rest):=by rw [List.drop_left,frames_cons,List.append_assoc]
  have hn:=nextF_frame r (frames ls++rest) hr
  have hrec:=rec_of_frame r (frames ls++rest)
  have e1:scanF (pre++(frames (r::ls)++rest)) (s+1) pre.length acc=scanF (pre++(frames (r::ls)++rest)) s (pre.length+(12+r.length)) (acc++[r]):=by
   show (if _ then _ else if _ then _ else _)=_
   rw [hd,hn]
   simp only
   rw [if_neg (by rw [List.length_append,hlen];omega),if_pos trivial,hrec]
  rw [e1]
  have e2:pre++(frames (r::ls)++rest)=(pre++frameF r)++(frames ls++rest):=by rw [frames_cons];simp only [List.append_assoc]
  have e3:pre.length+(12+r.length)=(pre++frameF r).length:=by rw [List.length_append,hl]
  rw [e2,e3,ih (pre++frameF r) (acc++[r]) (fun x hx=>h x (by simp [hx])) s (by omega)]
  rw [frames_cons,List.length_append,List.length_append,hl]
  have hfl:(frames ls).length≤(frames ls++rest).length:=by rw [List.length_append];omega
  rw [List.append_assoc acc,List.singleton_append]
  rw [show pre.length+(12+r.length)+(frames ls).length=pre.length+(12+r.length+(frames ls).length) by omega]
  exact scanF_fuel _ _ _ _ _ (by simp only [List.length_append,hl] at hlen ht ⊢;omega) (by simp only [List.length_append,hl] at hlen ht ⊢;omega)

theorem scanAll_from (ls:List (List UInt8)) (rest:List UInt8) (h:∀r∈ls,r.length≤20000) :
  scanAll (frames ls++rest)=scanF (frames ls++rest) rest.length (frames ls).length ls:=by
 unfold scanAll
 have:=scanF_frames [] rest ls [] h (frames ls++rest).length (Nat.le_refl _)
 simp only [List.nil_append,List.length_nil,Nat.zero_add] at this
 rw [this]
 exact scanF_fuel _ _ _ _ _ (by rw [List.length_append];omega) (by rw [List.length_append];omega)
theorem scanAll_frames (ls:List (List UInt8)) (h:∀r∈ls,r.length≤20000):scanAll (frames ls)=(ls,(frames ls).length,0):=by
 have:=scanAll_from ls [] h
 rw [List.append_nil] at this
 rw [this];rfl
theorem scanAll_stop (ls:List (List UInt8)) (rest:List UInt8) (h:∀r∈ls,r.length≤20000) (h0:0<rest.length) (h1:¬(nextF rest).2=0):scanAll (frames ls++rest)=(ls,(frames ls).length,(nextF rest).2):=by
 rw [scanAll_from ls rest h]
 obtain ⟨t,ht⟩:∃t,rest.length=t+1:=⟨rest.length - 1,by omega⟩
 rw [ht]
 show (if _ then _ else if _ then _ else _)=_
 rw [List.drop_left,if_neg (by rw [List.length_append];omega),if_neg h1]
theorem scanAll_torn (ls:List (List UInt8)) (r:List UInt8) (j:Nat) (h:∀r∈ls,r.length≤20000) (hr:r.length≤20000) (hj:j<12+r.length) :
  scanAll (frames ls++(frameF r).take j)=(ls,(frames ls).length,if j=0 then 0 else 1):=by
 by_cases h0:j=0
 ·subst h0
  rw [List.take_zero,List.append_nil,scanAll_frames ls h];rfl
 ·have hl:=frameF_len r
  have hn:=nextF_torn r hr j hj
  rw [scanAll_stop ls _ h (by rw [List.length_take];omega) (by rw [hn];decide),hn,if_neg h0]

end Go.Proofs.Ytnicaicjgaoolaa.F
namespace Go.Proofs.Ytnicaicjgaoolaa
open Go.RowKit Go.ChangeMaps Go.WideMaps Go.Maps
set_option maxRecDepth 20000
section
variable (p:String)
def z0wx0:Oper:=⟨some 3,.move (.tmp 0),63,p,#[],none⟩
def z0wx1:Oper:=⟨some 4,.nilCheck (.tmp 3),0,p,#[⟨0,.data⟩],none⟩
def z0wx2:Oper:=⟨some 5,.fieldAddr 99 (.tmp 4) 2,0,p,#[⟨1,.data⟩],none⟩
def z0wx3:Oper:=⟨some 6,.load 4 (.tmp 5),4,p,#[⟨2,.data⟩],none⟩
def z0wx4:Oper:=⟨some 7,.move (.tmp 6),4,p,#[⟨3,.data⟩],none⟩
def z0wx5:Oper:=⟨some 8,.move (.tmp 0),63,p,#[⟨4,.guard⟩],some (4,false)⟩
def z0wx6:Oper:=⟨some 9,.nilCheck (.tmp 8),0,p,#[⟨5,.data⟩,⟨4,.guard⟩],some (4,false)⟩
def z0wx7:Oper:=⟨some 10,.fieldAddr 99 (.tmp 9) 0,0,p,#[⟨6,.data⟩,⟨4,.guard⟩],some (4,false)⟩
def z0wx8:Oper:=⟨some 11,.load 54 (.tmp 10),54,p,#[⟨7,.data⟩,⟨4,.guard⟩],some (4,false)⟩
def z0wx9:Oper:=⟨some 12,.call { callee:=Callee.value (Operand.func 33),args:=#[.tmp 11],argTypes:=#[54]},3,p,#[⟨8,.data⟩,⟨4,.chain⟩,⟨4,.guard⟩],some (4,false)⟩
def z0wx10:Oper:=⟨some 13,.move (.tmp 0),63,p,#[⟨4,.guard⟩],some (4,false)⟩
def z0wx11:Oper:=⟨some 14,.nilCheck (.tmp 13),0,p,#[⟨10,.data⟩,⟨4,.guard⟩],some (4,false)⟩
def z0wx12:Oper:=⟨some 15,.fieldAddr 99 (.tmp 14) 1,0,p,#[⟨11,.data⟩,⟨4,.guard⟩],some (4,false)⟩
def z0wx13:Oper:=⟨some 16,.load 3 (.tmp 15),3,p,#[⟨12,.data⟩,⟨4,.guard⟩],some (4,false)⟩
def z0wx14:Oper:=⟨some 17,.binOp BinOp.neq 3 (.tmp 12) (.tmp 16) 3,4,p,#[⟨9,.data⟩,⟨13,.data⟩,⟨4,.guard⟩],some (4,false)⟩
def z0wx15:Oper:=⟨some 18,.pick (.tmp 7) (Operand.const (Value.bool true)) (.tmp 17),4,p,#[⟨4,.data⟩,⟨14,.data⟩],none⟩
def z0wx16:Oper:=⟨some 19,.move (.tmp 18),4,p,#[⟨15,.data⟩,⟨9,.chain⟩],none⟩
def z0wx17:Oper:=⟨some 20,.move (.tmp 0),63,p,#[⟨16,.guard⟩],some (16,false)⟩
def z0wx18:Oper:=⟨some 21,.nilCheck (.tmp 20),0,p,#[⟨17,.data⟩,⟨16,.guard⟩],some (16,false)⟩
def z0wx19:Oper:=⟨some 22,.fieldAddr 99 (.tmp 21) 0,0,p,#[⟨18,.data⟩,⟨16,.guard⟩],some (16,false)⟩
def z0wx20:Oper:=⟨some 23,.load 54 (.tmp 22),54,p,#[⟨19,.data⟩,⟨16,.guard⟩],some (16,false)⟩
def z0wx21:Oper:=⟨some 24,.call { callee:=Callee.value (Operand.func 32),args:=#[.tmp 23],argTypes:=#[54]},4,p,#[⟨20,.data⟩,⟨16,.chain⟩,⟨16,.guard⟩],some (16,false)⟩
def z0wx22:Oper:=⟨some 25,.unOp UnOp.not 4 (.tmp 24),4,p,#[⟨21,.data⟩,⟨16,.guard⟩],some (16,false)⟩
def z0wx23:Oper:=⟨some 26,.pick (.tmp 19) (Operand.const (Value.bool true)) (.tmp 25),4,p,#[⟨16,.data⟩,⟨22,.data⟩],none⟩
def z0wx24:Oper:=⟨some 2,.assign (.tmp 26),4,p,#[⟨23,.data⟩,⟨21,.chain⟩,⟨0,.phase⟩,⟨1,.phase⟩,⟨2,.phase⟩,⟨3,.phase⟩,⟨4,.phase⟩,⟨5,.phase⟩,⟨6,.phase⟩,⟨7,.phase⟩,⟨8,.phase⟩,⟨9,.phase⟩,⟨10,.phase⟩,⟨11,.phase⟩,⟨12,.phase⟩,⟨13,.phase⟩,⟨14,.phase⟩,⟨15,.phase⟩,⟨16,.phase⟩,⟨17,.phase⟩,⟨18,.phase⟩,⟨19,.phase⟩,⟨20,.phase⟩,⟨21,.phase⟩,⟨22,.phase⟩,⟨23,.phase⟩],none⟩
end
attribute [go_sem,reducible] z0wx0 z0wx1 z0wx2 z0wx3 z0wx4 z0wx5 z0wx6 z0wx7 z0wx8 z0wx9 z0wx10 z0wx11 z0wx12 z0wx13 z0wx14 z0wx15 z0wx16 z0wx17 z0wx18 z0wx19 z0wx20 z0wx21 z0wx22 z0wx23 z0wx24
def Dis (A B:List Nat):Prop:=∀x∈A,x∉B
theorem Dis.symm {A B:List Nat} (h:Dis A B):Dis B A:=fun x hb ha=>h x ha hb
/-- A', but for what is new, is of A -/
def Ext (A A':List Nat) (w:World):Prop:=∀b∈A',b∈A∨w.heap.size≤b
theorem Ext.refl (A:List Nat) (w:World):Ext A A w:=fun b h=>.inl h
theorem Moves.dis {D D' X:List Nat} {w w':World} (h:Moves D D' w w') (hd:Dis D X) (hx:∀b∈X,b<w.heap.size):Dis D' X:=fun b hb hX=>by
 rcases h.gr b hb with h1 | h1
 ·exact hd b h1 hX
 ·have:=hx b hX;omega
/-- bytes that never turn: their block is none of A -/
def Imm (w:World) (A:List Nat) (v:Value) (l:List UInt8):Prop:=∃ao c,v = .slice ao l.length c∧IsB w ao l.length c l∧l.length≤c∧∀p,ao=some p→p.block∉A∧p.block<w.heap.size
theorem Imm.step {w w':World} {A A' S:List Nat} {v:Value} {l:List UInt8} (h:Imm w A v l) (ho:Only S w w') (hS:∀b∈S,b∈A) (he:Ext A A' w):Imm w' A' v l:=by
 obtain ⟨ao,c,rfl,h1,h2,h3⟩:=h
 refine ⟨ao,c,rfl,isB_avoid h1 ho (fun b off i hb=>fun hm=>(h3 _ hb.1).1 (hS b hm)),h2,fun p hp=>?_⟩
 obtain ⟨h4,h5⟩:=h3 p hp
 refine ⟨fun hm=>?_,Nat.lt_of_lt_of_le h5 ho.size⟩
 rcases he _ hm with h6 | h6
 ·exact h4 h6
 ·omega
theorem Imm.below {w w':World} {A:List Nat} {v:Value} {l:List UInt8} (h:Imm w A v l) (hb:Below w.heap.size w w'):Imm w' A v l:=h.step (Only.ofBelow hb []) (fun b hb=>by cases hb) (Ext.refl _ _)
theorem Imm.new {w w':World} {A:List Nat} {v:Value} {l:List UInt8} (h:OwnB w' w.heap.size 5 v l) (hA:∀b∈A,b<w.heap.size):Imm w' A v l:=by
 obtain ⟨ao,c,rfl,h1,h2,h3⟩:=own_more h
 exact ⟨ao,c,rfl,h1,h2,fun p hp=>⟨fun hm=>by have:=hA _ hm;have:=(h3 p hp).1;omega,(h3 p hp).2⟩⟩
theorem Imm.mono {w:World} {A A':List Nat} {v:Value} {l:List UInt8} (h:Imm w A' v l) (hs:∀b∈A,b∈A'):Imm w A v l:=by
 obtain ⟨ao,c,h0,h1,h2,h3⟩:=h
 exact ⟨ao,c,h0,h1,h2,fun p hp=>⟨fun hm=>(h3 p hp).1 (hs _ hm),(h3 p hp).2⟩⟩
structure Wl where
 lives:Int
 done:Bool
 recs:List (List UInt8)
def endsOf (recs:List (List UInt8)):List Int:=(List.range recs.length).map fun i=>((F.frames (recs.take (i+1))).length:Int)
theorem endsOf_len (recs:List (List UInt8)):(endsOf recs).length=recs.length:=by simp [endsOf]
/-- the log's rows -/
structure WRows (w:World) (A L:List Nat) (vr ve:Value) (recs:List (List UInt8)):Prop where
 rr:∃us:List Value,us.length=recs.length∧w.ownsRow 0 29 1 vr recs.length us∧∀i,i<recs.length→Imm w A (us.getD i undef) (recs.getD i [])
 re:OwnI w 0 3 ve (endsOf recs)
 vrL:∀k,vr.ownBlock=some k→k∈L
 veL:∀k,ve.ownBlock=some k→k∈L
structure IsWl (w:World) (A L:List Nat) (l d:Nat) (s:Wl):Prop where
 ex:∃vr ve,w.heap[l]? = some (.cells #[.pointer (some ⟨d,0,none⟩),.int .i64 s.lives,.bool s.done,.int .i64 1,vr,ve] 99 (0,0))∧WRows w A L vr ve s.recs
 mem:l∈L
 lt:∀b∈L,b<w.heap.size
theorem WRows.keep {w w':World} {A A' L S:List Nat} {vr ve:Value} {recs:List (List UInt8)} (h:WRows w A L vr ve recs) (ho:Only S w w') (hL:∀b∈L,b∉S) (hS:∀b∈S,b∈A) (he:Ext A A' w):WRows w' A' L vr ve recs:=by
 obtain ⟨⟨us,h1,h2,h3⟩,h4,h5,h6⟩:=h
 exact ⟨⟨us,h1,rows_only0 h2 ho (fun k hk=>hL k (h5 k hk)),fun i hi=>(h3 i hi).step ho hS he⟩,rows_only0 h4 ho (fun k hk=>hL k (h6 k hk)),h5,h6⟩
theorem IsWl.keep {w w':World} {A A' L S:List Nat} {l d:Nat} {s:Wl} (h:IsWl w A L l d s) (ho:Only S w w') (hL:∀b∈L,b∉S) (hS:∀b∈S,b∈A) (he:Ext A A' w):IsWl w' A' L l d s:=by
 obtain ⟨⟨vr,ve,h1,h2⟩,h3,h4⟩:=h
 exact ⟨⟨vr,ve,ho.keeps h1 (hL _ h3),h2.keep ho hL hS he⟩,h3,fun b hb=>Nat.lt_of_lt_of_le (h4 b hb) ho.size⟩
theorem IsWl.below {w w':World} {A L:List Nat} {l d:Nat} {s:Wl} (h:IsWl w A L l d s) (hb:Below w.heap.size w w'):IsWl w' A L l d s:=h.keep (Only.ofBelow hb []) (fun b _=>by simp) (fun b hb=>by cases hb) (Ext.refl _ _)
section
variable {w:World} {A D L:List Nat} {l d:Nat} {s:Wl} {k:Dk}
theorem first_any (h:IsWl w A L l d s):Calls Try.prog 60 #[.pointer (some ⟨l,0,none⟩)] w fun e w'=>e = .returned (.int .i64 1)∧w=w':=by
 obtain ⟨⟨vr,ve,h1,_⟩,_⟩:=h
 have hc:w.cell? ⟨l,3,none⟩=some (.int .i64 1):=by rw [cell_heap h1];rfl
 clear h1
 go_enter Try.func60,Try.ntmps60
 go_wp2_with fail
 go_ret
 exact ⟨rfl,rfl⟩
theorem next_any (h:IsWl w A L l d s) (hl:s.recs.length≤1000000000):Calls Try.prog 61 #[.pointer (some ⟨l,0,none⟩)] w fun e w'=>e = .returned (.int .i64 (1+(s.recs.length:Int)))∧∃q,w'=w.drewN q:=by
 obtain ⟨⟨vr,ve,h1,⟨us,hu,hr,_⟩,_⟩,_⟩:=h
 obtain ⟨ao,c,rfl,_,_⟩:=rows_form hr
 have hc:w.cell? ⟨l,3,none⟩=some (.int .i64 1):=by rw [cell_heap h1];rfl
 have hc4:w.cell? ⟨l,4,none⟩=some (.slice ao s.recs.length c):=by rw [cell_heap h1];rfl
 have q1:IntKind.i64.wrap (1+(s.recs.length:Int))=1+(s.recs.length:Int):=IntWalk.i64_in _ (by omega)
 clear h1 hu hr
 go_enter Try.func61,Try.ntmps61
 go_wp2_with fail
 go_quiet (fail)
 go_wp2_with fail
 go_ret
 exact ⟨rfl,nq,rfl⟩
/-- does the log do nothing more -/
def offW (s:Wl) (k:Dk):Bool:=s.done||(!(k.lives==s.lives)||k.off)
set_option maxHeartbeats 1000000 in
theorem off_any (h:IsWl w A L l d s) (hd:IsDk w D d k):Calls Try.prog 76 #[.pointer (some ⟨l,0,none⟩)] w fun e w'=>e = .returned (.bool (offW s k))∧∃q,w'=w.drewN q:=by
 have HD:=Lib.hid hd
 obtain ⟨⟨vr,ve,h1,_⟩,_⟩:=h
 have hc0:w.cell? ⟨l,0,none⟩=some (.pointer (some ⟨d,0,none⟩)):=by rw [cell_heap h1];rfl
 have hc1:w.cell? ⟨l,1,none⟩=some (.int .i64 s.lives):=by rw [cell_heap h1];rfl
 have hc2:w.cell? ⟨l,2,none⟩=some (.bool s.done):=by rw [cell_heap h1];rfl
 clear h1 hd
 unfold offW
 generalize s.done=dn at *
 generalize s.lives=sl at *
 cases dn with
 | true =>
  go_enter Try.func76,Try.ntmps76
  go_upto_region 1 with (fail)
  refine wp_region_held_drew (S:=fun w'=>w'.cell? ⟨l,0,none⟩=some (.pointer (some ⟨d,0,none⟩))∧w'.cell? ⟨l,1,none⟩=some (.int .i64 sl)∧w'.cell? ⟨l,2,none⟩=some (.bool true)) (by kernel_rfl) ⟨hc0,hc1,hc2⟩ (fun hHeld=>?_)
  refine qtl 0 (z0wx0 _) rfl ?_
  refine qtl 1 (z0wx1 _) rfl ?_
  refine qtl 2 (z0wx2 _) rfl ?_
  refine qtl 3 (z0wx3 _) rfl ?_
  refine qtl 4 (z0wx4 _) rfl ?_
  refine qtu 5 (z0wx5 _) rfl ?_
  refine qtu 6 (z0wx6 _) rfl ?_
  refine qtu 7 (z0wx7 _) rfl ?_
  refine qtu 8 (z0wx8 _) rfl ?_
  refine qtu 9 (z0wx9 _) rfl ?_
  refine qtu 10 (z0wx10 _) rfl ?_
  refine qtu 11 (z0wx11 _) rfl ?_
  refine qtu 12 (z0wx12 _) rfl ?_
  refine qtu 13 (z0wx13 _) rfl ?_
  refine qtu 14 (z0wx14 _) rfl ?_
  refine qtl 15 (z0wx15 _) rfl ?_
  refine qtl 16 (z0wx16 _) rfl ?_
  refine qtu 17 (z0wx17 _) rfl ?_
  refine qtu 18 (z0wx18 _) rfl ?_
  refine qtu 19 (z0wx19 _) rfl ?_
  refine qtu 20 (z0wx20 _) rfl ?_
  refine qtu 21 (z0wx21 _) rfl ?_
  refine qtu 22 (z0wx22 _) rfl ?_
  refine qtl 23 (z0wx23 _) rfl ?_
  refine qtl 24 (z0wx24 _) rfl ?_
  refine qdn ?_
  go_wp2_with fail
  go_ret
  exact ⟨by simp,1,rfl⟩
 | false =>
  by_cases hl:k.lives=sl
  ·have hlb:(k.lives==sl)=true:=by simpa using hl
   rw [hlb]
   have hne:(k.lives != sl)=false:=by rw [bne,hlb];rfl
   clear hl hlb
   go_enter Try.func76,Try.ntmps76
   go_upto_region 1 with (fail)
   refine wp_region_held_drew (S:=fun w'=>w'.cell? ⟨l,0,none⟩=some (.pointer (some ⟨d,0,none⟩))∧w'.cell? ⟨l,1,none⟩=some (.int .i64 sl)∧w'.cell? ⟨l,2,none⟩=some (.bool false)) (by kernel_rfl) ⟨hc0,hc1,hc2⟩ (fun hHeld=>?_)
   refine qtl 0 (z0wx0 _) rfl ?_
   refine qtl 1 (z0wx1 _) rfl ?_
   refine qtl 2 (z0wx2 _) rfl ?_
   refine qtl 3 (z0wx3 _) rfl ?_
   refine qtl 4 (z0wx4 _) rfl ?_
   refine qtl 5 (z0wx5 _) rfl ?_
   refine qtl 6 (z0wx6 _) rfl ?_
   refine qtl 7 (z0wx7 _) rfl ?_
   refine qtl 8 (z0wx8 _) rfl ?_
   refine qtl 10 (z0wx10 _) rfl ?_
   refine qtl 11 (z0wx11 _) rfl ?_
   refine qtl 12 (z0wx12 _) rfl ?_
   refine qtl 13 (z0wx13 _) rfl ?_
   refine qr1 9 (z0wx9 _) rfl fun K hK=>?_
   unfold z0wx9
   go_simp
   refine (lives_any (HD.out.below (below_drew1 w))).mono ?_
   rintro e wa ⟨rfl,rfl⟩
   go_wp2_with fail
   refine hK.out _ _ hHeld (fun hHeld=>?_)
   clear hK K
   refine qsp ?_
   refine qtl 14 (z0wx14 _) rfl ?_
   refine qtl 15 (z0wx15 _) rfl ?_
   refine qtl 16 (z0wx16 _) rfl ?_
   refine qtl 17 (z0wx17 _) rfl ?_
   refine qtl 18 (z0wx18 _) rfl ?_
   refine qtl 19 (z0wx19 _) rfl ?_
   refine qtl 20 (z0wx20 _) rfl ?_
   refine qr1 21 (z0wx21 _) rfl fun K hK=>?_
   unfold z0wx21
   go_simp
   refine (power_any (HD.out.below (below_drew1 w))).mono ?_
   rintro e wb ⟨rfl,rfl⟩
   go_wp2_with fail
   refine hK.out _ _ hHeld (fun hHeld=>?_)
   clear hK K
   refine qsp ?_
   refine qtl 22 (z0wx22 _) rfl ?_
   refine qtl 23 (z0wx23 _) rfl ?_
   refine qtl 24 (z0wx24 _) rfl ?_
   refine qdn ?_
   go_wp2_with fail
   go_ret
   exact ⟨by simp,1,rfl⟩
  ·have hlb:(k.lives==sl)=false:=by simpa using hl
   rw [hlb]
   have hne:(k.lives != sl)=true:=by rw [bne,hlb];rfl
   clear hl hlb
   go_enter Try.func76,Try.ntmps76
   go_upto_region 1 with (fail)
   refine wp_region_held_drew (S:=fun w'=>w'.cell? ⟨l,0,none⟩=some (.pointer (some ⟨d,0,none⟩))∧w'.cell? ⟨l,1,none⟩=some (.int .i64 sl)∧w'.cell? ⟨l,2,none⟩=some (.bool false)) (by kernel_rfl) ⟨hc0,hc1,hc2⟩ (fun hHeld=>?_)
   refine qtl 0 (z0wx0 _) rfl ?_
   refine qtl 1 (z0wx1 _) rfl ?_
   refine qtl 2 (z0wx2 _) rfl ?_
   refine qtl 3 (z0wx3 _) rfl ?_
   refine qtl 4 (z0wx4 _) rfl ?_
   refine qtl 5 (z0wx5 _) rfl ?_
   refine qtl 6 (z0wx6 _) rfl ?_
   refine qtl 7 (z0wx7 _) rfl ?_
   refine qtl 8 (z0wx8 _) rfl ?_
   refine qtl 10 (z0wx10 _) rfl ?_
   refine qtl 11 (z0wx11 _) rfl ?_
   refine qtl 12 (z0wx12 _) rfl ?_
   refine qtl 13 (z0wx13 _) rfl ?_
   refine qr1 9 (z0wx9 _) rfl fun K hK=>?_
   unfold z0wx9
   go_simp
   refine (lives_any (HD.out.below (below_drew1 w))).mono ?_
   rintro e wa ⟨rfl,rfl⟩
   go_wp2_with fail
   refine hK.out _ _ hHeld (fun hHeld=>?_)
   clear hK K
   refine qsp ?_
   refine qtl 14 (z0wx14 _) rfl ?_
   refine qtl 15 (z0wx15 _) rfl ?_
   refine qtl 16 (z0wx16 _) rfl ?_
   refine qtu 17 (z0wx17 _) rfl ?_
   refine qtu 18 (z0wx18 _) rfl ?_
   refine qtu 19 (z0wx19 _) rfl ?_
   refine qtu 20 (z0wx20 _) rfl ?_
   refine qtu 21 (z0wx21 _) rfl ?_
   refine qtu 22 (z0wx22 _) rfl ?_
   refine qtl 23 (z0wx23 _) rfl ?_
   refine qtl 24 (z0wx24 _) rfl ?_
   refine qdn ?_
   go_wp2_with fail
   go_ret
   exact ⟨by simp,1,rfl⟩
/-- an error is noted -/
def chkW (s:Wl) (e:Int):Wl:={ s with done:=s.done || !(e==0)}
theorem WRows.only_l {w':World} {vr ve:Value} {recs:List (List UInt8)} {cs:Array Value} (h:WRows w A L vr ve recs) (ho:Only [l] w w') (hl:w.heap[l]? = some (.cells cs 99 (0,0))) (hA:l∈A):WRows w' A L vr ve recs:=by
 obtain ⟨⟨us,h1,h2,h3⟩,h4,h5,h6⟩:=h
 refine ⟨⟨us,h1,rows_only0 h2 ho (fun b hb hm=>?_),fun i hi=>(h3 i hi).step ho (by simpa using hA) (Ext.refl _ _)⟩,rows_only0 h4 ho (fun b hb hm=>?_),h5,h6⟩
 ·rcases h2.2 with ⟨rfl,_⟩ | ⟨g,cap,cur,rfl,_,hg,_⟩
  ·simp [Value.ownBlock] at hb
  ·simp [Value.ownBlock] at hb
   rw [List.mem_singleton.1 hm] at hb
   subst hb
   rw [hg] at hl;simp at hl
 ·rcases h4.2 with ⟨rfl,_⟩ | ⟨g,cap,cur,rfl,_,hg,_⟩
  ·simp [Value.ownBlock] at hb
  ·simp [Value.ownBlock] at hb
   rw [List.mem_singleton.1 hm] at hb
   subst hb
   rw [hg] at hl;simp at hl
theorem check_any (h:IsWl w A L l d s) (hA:∀b∈L,b∈A) (e0:Int):Calls Try.prog 77 #[.pointer (some ⟨l,0,none⟩),.int .i64 e0] w fun e w'=>e = .returned (.int .i64 e0)∧IsWl w' A L l d (chkW s e0)∧Only L w w':=by
 obtain ⟨⟨vr,ve,h1,h2⟩,h3,h4⟩:=h
 have hc2:w.cell? ⟨l,2,none⟩=some (.bool s.done):=by rw [cell_heap h1];rfl
 have hz2:=free_heap h1 2
 have hfin:∀b:Bool,b=(s.done || !(e0==0))→IsWl (w.setCell ⟨l,2,none⟩ (.bool b)) A L l d (chkW s e0)∧Only L w (w.setCell ⟨l,2,none⟩ (.bool b)):=by
  intro b hb
  have ho:Only [l] w (w.setCell ⟨l,2,none⟩ (.bool b)):=(Only.refl _ _).setCell (by simp) _
  refine ⟨⟨⟨vr,ve,?_,h2.only_l ho h1 (hA _ h3)⟩,h3,fun x hx=>Nat.lt_of_lt_of_le (h4 x hx) ho.size⟩,ho.mono (by simpa using h3)⟩
  have:=heap_set h1 2 (.bool b)
  rw [hb] at this ⊢
  exact this
 have HF:=Lib.hid hfin
 clear h1 h2 h3 h4 hfin
 generalize s.done=dn at *
 cases dn with
 | true =>
  go_enter Try.func77,Try.ntmps77
  go_wp2_with fail
  go_ret
  obtain ⟨f1,f2⟩:=HF.out true (by simp)
  exact ⟨rfl,f1,f2⟩
 | false =>
  by_cases h0:e0=0
  ·have hb:(e0 != 0)=false:=by simpa using h0
   have HE:Hid ((e0==0)=true):=Lib.hid (by simpa using h0)
   clear h0
   go_enter Try.func77,Try.ntmps77
   go_wp2_with fail
   go_ret
   obtain ⟨f1,f2⟩:=HF.out false (by rw [HE.out];rfl)
   exact ⟨rfl,f1,f2⟩
  ·have hb:(e0 != 0)=true:=by simpa using h0
   have HE:Hid ((e0==0)=false):=Lib.hid (by simpa using h0)
   clear h0
   go_enter Try.func77,Try.ntmps77
   go_wp2_with fail
   go_ret
   obtain ⟨f1,f2⟩:=HF.out true (by rw [HE.out];rfl)
   exact ⟨rfl,f1,f2⟩
theorem endsOf_at (recs:List (List UInt8)) (i:Nat) (hi:i<recs.length):(endsOf recs).getD i 0=((F.frames (recs.take (i+1))).length:Int):=by
 simp [endsOf,hi]
theorem wend_any (h:IsWl w A L l d s) (n:Nat) (hn:n≤s.recs.length) (hb:s.recs.length≤1000000000):Calls Try.prog 81 #[.pointer (some ⟨l,0,none⟩),.int .i64 (n:Int)] w fun e w'=>e = .returned (.int .i64 ((F.frames (s.recs.take n)).length:Int))∧w=w':=by
 obtain ⟨⟨vr,ve,h1,_,h2,_⟩,_⟩:=h
 by_cases h0:n=0
 ·subst h0
  clear h1 h2
  go_enter Try.func81,Try.ntmps81
  go_wp2_with fail
  go_ret
  exact ⟨rfl,rfl⟩
 ·obtain ⟨j,rfl⟩:∃j,n=j+1:=⟨n - 1,by omega⟩
  obtain ⟨ao,c,rfl,hi⟩:=h2.isI
  rw [endsOf_len] at hi
  have hat:=endsOf_at s.recs j (by omega)
  have hc5:w.cell? ⟨l,5,none⟩=some (.slice ao (endsOf s.recs).length c):=by rw [cell_heap h1];rfl
  rw [endsOf_len] at hc5
  rcases hi.at_ with h3 | ⟨b,off,rfl,h4⟩
  ·omega
  have hce:=h4 j (by omega)
  rw [hat] at hce
  have g0:(((j+1:Nat):Int)==0)=false:=by rw [beq_eq_false_iff_ne];omega
  have q1:IntKind.i64.wrap (((j+1:Nat):Int) - 1)=(j:Int):=by rw [IntWalk.i64_in _ (by omega)];omega
  have hjl:(j:Int)<(s.recs.length:Int):=by omega
  clear h1 h2 hi h4 hat h0
  generalize (F.frames (s.recs.take (j+1))).length=fl at *
  generalize s.recs.length=n9 at *
  go_enter Try.func81,Try.ntmps81
  go_wp2_with fail
  go_ret
  exact ⟨rfl,rfl⟩
end
end Go.Proofs.Ytnicaicjgaoolaa
