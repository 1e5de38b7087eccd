/-
  What the proof of the law leans on: contracts of the program's functions, one behind another. No condition.
-/
import Derived.Test.YtnicaicjgaoolaaT6
import Derived.Test.YtnicaicjgaoolaaT3
set_option linter.unusedVariables false
set_option linter.unusedSimpArgs false
namespace Go.Proofs.Ytnicaicjgaoolaa
open Go.RowKit Go.ChangeMaps Go.WideMaps Go.Maps
set_option maxRecDepth 20000
section
variable (p:String)
def z0yx0:Oper:=⟨some 31,.move (.tmp 0),63,p,#[],none⟩
def z0yx1:Oper:=⟨some 32,.move (.tmp 0),63,p,#[],none⟩
def z0yx2:Oper:=⟨some 33,.nilCheck (.tmp 32),0,p,#[⟨1,.data⟩],none⟩
def z0yx3:Oper:=⟨some 34,.fieldAddr 99 (.tmp 33) 5,0,p,#[⟨2,.data⟩],none⟩
def z0yx4:Oper:=⟨some 36,.move (.tmp 0),63,p,#[],none⟩
def z0yx5:Oper:=⟨some 37,.move (.tmp 0),63,p,#[],none⟩
def z0yx6:Oper:=⟨some 38,.nilCheck (.tmp 37),0,p,#[⟨6,.data⟩],none⟩
def z0yx7:Oper:=⟨some 39,.fieldAddr 99 (.tmp 38) 4,0,p,#[⟨7,.data⟩],none⟩
def z0yx8:Oper:=⟨some 40,.load 36 (.tmp 39),36,p,#[⟨8,.data⟩],none⟩
def z0yx9:Oper:=⟨some 41,.call { callee:=Callee.builtin Builtin.len,args:=#[.tmp 40],argTypes:=#[36]},3,p,#[⟨9,.data⟩],none⟩
def z0yx10:Oper:=⟨some 43,.move (.tmp 5),29,p,#[],none⟩
def z0yx11:Oper:=⟨some 44,.call { callee:=Callee.builtin Builtin.len,args:=#[.tmp 43],argTypes:=#[29]},3,p,#[⟨12,.data⟩],none⟩
def z0yx12:Oper:=⟨some 35,.load 27 (.tmp 34),27,p,#[⟨3,.data⟩],none⟩
def z0yx13:Oper:=⟨some 42,.call { callee:=Callee.value (Operand.func 81),args:=#[.tmp 36,.tmp 41],argTypes:=#[63,3]},3,p,#[⟨5,.data⟩,⟨10,.data⟩],none⟩
def z0yx14:Oper:=⟨some 45,.binOp BinOp.add 3 (.tmp 42) (.tmp 44) 3,3,p,#[⟨11,.data⟩,⟨13,.data⟩],none⟩
def z0yx15:Oper:=⟨some 46,.buildSlice 27 1 #[(0,.tmp 45)],27,p,#[⟨14,.data⟩],none⟩
def z0yx16:Oper:=⟨some 47,.call { callee:=Callee.builtin Builtin.append,args:=#[.tmp 35,.tmp 46],argTypes:=#[27,27]},27,p,#[⟨4,.data⟩,⟨15,.data⟩,⟨11,.chain⟩],none⟩
def z0yx17:Oper:=⟨some 48,.nilCheck (.tmp 31),0,p,#[⟨0,.data⟩,⟨0,.phase⟩,⟨1,.phase⟩,⟨2,.phase⟩,⟨3,.phase⟩,⟨4,.phase⟩,⟨5,.phase⟩,⟨6,.phase⟩,⟨7,.phase⟩,⟨8,.phase⟩,⟨9,.phase⟩,⟨10,.phase⟩,⟨11,.phase⟩,⟨12,.phase⟩,⟨13,.phase⟩,⟨14,.phase⟩,⟨15,.phase⟩,⟨16,.phase⟩],none⟩
def z0yx18:Oper:=⟨some 49,.fieldAddr 99 (.tmp 48) 5,0,p,#[⟨17,.data⟩,⟨0,.phase⟩,⟨1,.phase⟩,⟨2,.phase⟩,⟨3,.phase⟩,⟨4,.phase⟩,⟨5,.phase⟩,⟨6,.phase⟩,⟨7,.phase⟩,⟨8,.phase⟩,⟨9,.phase⟩,⟨10,.phase⟩,⟨11,.phase⟩,⟨12,.phase⟩,⟨13,.phase⟩,⟨14,.phase⟩,⟨15,.phase⟩,⟨16,.phase⟩],none⟩
def z0yx19:Oper:=⟨none,.store 27 (.tmp 49) (.tmp 47),0,p,#[⟨18,.data⟩,⟨16,.data⟩,⟨16,.chain⟩,⟨0,.phase⟩,⟨1,.phase⟩,⟨2,.phase⟩,⟨3,.phase⟩,⟨4,.phase⟩,⟨5,.phase⟩,⟨6,.phase⟩,⟨7,.phase⟩,⟨8,.phase⟩,⟨9,.phase⟩,⟨10,.phase⟩,⟨11,.phase⟩,⟨12,.phase⟩,⟨13,.phase⟩,⟨14,.phase⟩,⟨15,.phase⟩,⟨16,.phase⟩],none⟩
def z0yx20:Oper:=⟨some 50,.move (.tmp 0),63,p,#[],none⟩
def z0yx21:Oper:=⟨some 51,.move (.tmp 0),63,p,#[],none⟩
def z0yx22:Oper:=⟨some 52,.nilCheck (.tmp 51),0,p,#[⟨1,.data⟩],none⟩
def z0yx23:Oper:=⟨some 53,.fieldAddr 99 (.tmp 52) 4,0,p,#[⟨2,.data⟩],none⟩
def z0yx24:Oper:=⟨some 55,.move (.tmp 1),29,p,#[],none⟩
def z0yx25:Oper:=⟨some 54,.load 36 (.tmp 53),36,p,#[⟨3,.data⟩],none⟩
def z0yx26:Oper:=⟨some 56,.call { callee:=Callee.value (Operand.func 26),args:=#[.tmp 55],argTypes:=#[29]},29,p,#[⟨5,.data⟩],none⟩
def z0yx27:Oper:=⟨some 57,.buildSlice 36 1 #[(0,.tmp 56)],36,p,#[⟨6,.data⟩],none⟩
def z0yx28:Oper:=⟨some 58,.call { callee:=Callee.builtin Builtin.append,args:=#[.tmp 54,.tmp 57],argTypes:=#[36,36]},36,p,#[⟨4,.data⟩,⟨7,.data⟩,⟨6,.chain⟩],none⟩
def z0yx29:Oper:=⟨some 59,.nilCheck (.tmp 50),0,p,#[⟨0,.data⟩,⟨0,.phase⟩,⟨1,.phase⟩,⟨2,.phase⟩,⟨3,.phase⟩,⟨4,.phase⟩,⟨5,.phase⟩,⟨6,.phase⟩,⟨7,.phase⟩,⟨8,.phase⟩],none⟩
def z0yx30:Oper:=⟨some 60,.fieldAddr 99 (.tmp 59) 4,0,p,#[⟨9,.data⟩,⟨0,.phase⟩,⟨1,.phase⟩,⟨2,.phase⟩,⟨3,.phase⟩,⟨4,.phase⟩,⟨5,.phase⟩,⟨6,.phase⟩,⟨7,.phase⟩,⟨8,.phase⟩],none⟩
def z0yx31:Oper:=⟨none,.store 36 (.tmp 60) (.tmp 58),0,p,#[⟨10,.data⟩,⟨8,.data⟩,⟨8,.chain⟩,⟨0,.phase⟩,⟨1,.phase⟩,⟨2,.phase⟩,⟨3,.phase⟩,⟨4,.phase⟩,⟨5,.phase⟩,⟨6,.phase⟩,⟨7,.phase⟩,⟨8,.phase⟩],none⟩
end
attribute [go_sem,reducible] z0yx0 z0yx1 z0yx2 z0yx3 z0yx4 z0yx5 z0yx6 z0yx7 z0yx8 z0yx9 z0yx10 z0yx11 z0yx12 z0yx13 z0yx14 z0yx15 z0yx16 z0yx17 z0yx18 z0yx19 z0yx20 z0yx21 z0yx22 z0yx23 z0yx24 z0yx25 z0yx26 z0yx27 z0yx28 z0yx29 z0yx30 z0yx31
theorem z0yxm0 {p:Prop} (h:p:=by
 refine qr1 16 (z0yx16 _) rfl fun K hK=>?_
 unfold z0yx16
 refine step_of_list rfl fun Q' hQ=>?_
 refine wpList_append_if rfl (.tmp 35) (.tmp 46) 27 rfl 3 Try.underlying27 F.info3 (.slice ae s.recs.length ce) (endsOf s.recs) rfl HE1.out _ 1 1 [(fl:Int)+(m9:Int)] rfl (isI_cell1 HN1.out) hlen ?_
 intro ve5 w5 ho5 hon5 hfr5
 refine hQ _ _ ?_
 clear hQ Q'
 have h5:=hon5.keeps HL1.out (ownI_ne HE1.out HL1.out (by simp))
 refine hK.out _ _ ((cell_heap h5 4).trans rfl) (fun hHeld=>?_)
 clear hK K
 refine qsp ?_
 have HL5:=Lib.hid h5;have HO5:=Lib.hid ho5;have HON5:=Lib.hid hon5;have HFR5:=Lib.hid hfr5
 clear h5 ho5 hon5 hfr5
 refine qtl 17 (z0yx17 _) rfl ?_
 refine qtl 18 (z0yx18 _) rfl ?_
 refine qr1 19 (z0yx19 _) rfl fun K hK=>?_
 unfold z0yx19
 have hy:w5.cell? ⟨l,5,none⟩=some (.slice ae s.recs.length ce):=(cell_heap HL5.out 5).trans rfl
 have hz:=free_heap HL5.out 5
 obtain ⟨a5,c5,e5,_⟩:=HO5.out.isI
 rw [List.length_append,endsOf_len] at e5
 simp only [List.length_cons,List.length_nil,Nat.zero_add] at e5
 subst e5
 go_simp
 clear hy hz
 refine hK.out _ _ ((cell_heap (heap_set HL5.out 5 _) 4).trans rfl) (fun hHeld=>?_)
 clear hK K
 refine qsp ?_
 refine qdn ?_
 go_wp2_with fail
 go_meet
 exact ⟨a5,c5,w5,rfl,HO5.out,(Only.ofBelow HB1.out _).trans HON5.out,fun k hk=>(HFR5.out k hk).imp id (fun h=>Nat.le_trans HB1.out.size h)⟩):p:=h
theorem z0yxm1 {p:Prop} (h:p:=by
 refine qr1 15 (z0yx15 _) rfl fun K hK=>?_
 unfold z0yx15
 go_simp
 have h1:=heap_old HLW.out (.cells #[.int .i64 ((fl:Int)+(m9:Int))] 3)
 have h2:=heap_new V (.cells #[.int .i64 ((fl:Int)+(m9:Int))] 3)
 have h3:OwnI (V.alloc (.cells #[.int .i64 ((fl:Int)+(m9:Int))] 3)) 0 3 (.slice ae s.recs.length ce) (endsOf s.recs):=HEV0.out.alloc _
 have hB1:Below V.heap.size V (V.alloc (.cells #[.int .i64 ((fl:Int)+(m9:Int))] 3)):=(Below.refl _ _).alloc (Nat.le_refl _) _
 refine hK.out _ _ ((cell_heap h1 4).trans rfl) (fun hHeld=>?_)
 clear hK K
 refine qsp ?_
 generalize V.alloc (.cells #[.int .i64 ((fl:Int)+(m9:Int))] 3)=v1 at *
 have HL1:=Lib.hid h1;have HN1:=Lib.hid h2;have HE1:=Lib.hid h3;have HB1:=Lib.hid hB1
 clear h1 h2 h3 hB1
 exact z0yxm0):p:=h
theorem z0yxm2 {p:Prop} (h:p:=by
 refine qr1 8 (z0yx28 _) rfl fun K hK=>?_
 unfold z0yx28
 refine step_of_list rfl fun Q' hQ=>?_
 refine wpList_append_foot rfl (.tmp 54) (.tmp 57) 36 rfl 29 i0 (.slice none 0 0) 1 24 Try.underlying36 HI0.out.1 HI0.out.2.1 HI0.out.2.2.1 HI0.out.2.2.2 rfl (by decide) (.slice ar s.recs.length cr) s.recs.length us rfl HRU7.out (some ⟨X7,0,none⟩) 1 1 rfl (fun e=>by cases e) [.slice a6 n c6] rfl (src1 HN7.out) (by simp [Value.oneCell']) (by unfold maxLen;omega) (by omega) ?_
 intro v8 w8 ho8 hon8 hfr8
 refine hQ _ _ ?_
 clear hQ Q'
 have h5:=hon8.keeps HL7.out (fun hm=>by have h6:=rows_at HRU7.out (by simpa using hm);rw [HL7.out] at h6;simp at h6)
 have h7:OwnB v7 V.heap.size 5 (.slice a6 n c6) rec:=HO7.out
 have h8:=rows_only0 h7 hon8 (fun b hb hm=>own_ne (h7.mono (Nat.zero_le _)) (rows_at HRU7.out (by simpa using hm)) (by simp) (by rw [hb];simp))
 refine hK.out _ _ trivial (fun hHeld=>?_)
 clear hK K
 refine qsp ?_
 obtain ⟨a8,c8,e8,_,_⟩:=rows_form ho8
 subst e8
 have HL8:=Lib.hid h5;have HO8:=Lib.hid ho8;have HON8:=Lib.hid hon8;have HFR8:=Lib.hid hfr8;have HV8:=Lib.hid h8
 clear h5 h7 h8 ho8 hon8 hfr8
 refine qtl 9 (z0yx29 _) rfl ?_
 refine qtl 10 (z0yx30 _) rfl ?_
 refine qr1 11 (z0yx31 _) rfl fun K hK=>?_
 unfold z0yx31
 have hy:w8.cell? ⟨l,4,none⟩=some (.slice ar s.recs.length cr):=(cell_heap HL8.out 4).trans rfl
 have hz:=free_heap HL8.out 4
 go_simp
 clear hy hz
 refine hK.out _ _ trivial (fun hHeld=>?_)
 clear hK K
 refine qsp ?_
 refine qdn ?_
 go_wp2_with fail
 go_meet
 exact ⟨a8,c8,.slice a6 n c6,w8,rfl,HO8.out,HV8.out,HL8.out,(Only.ofBelow HB7.out _).trans HON8.out,fun k hk=>(HFR8.out k hk).imp id (fun h=>Nat.le_trans HB7.out.size h)⟩):p:=h
theorem z0yxm3 {p:Prop} (h:p:=by
 refine hK.out _ _ trivial (fun hHeld=>?_)
 clear hK K
 refine qsp ?_
 refine qr1 7 (z0yx27 _) rfl fun K hK=>?_
 unfold z0yx27
 go_simp
 have h1:=heap_old HL6b.out (.cells #[.slice a6 n c6] 29)
 have h2:=heap_new w6 (.cells #[.slice a6 n c6] 29)
 have h3:=World.ownsRow.alloc HRU6b.out (.cells #[.slice a6 n c6] 29)
 have h4:=HO6b.out.alloc (.cells #[.slice a6 n c6] 29)
 have hB7:Below V.heap.size V (w6.alloc (.cells #[.slice a6 n c6] 29)):=HB6.out.alloc HB6.out.size _
 refine hK.out _ _ trivial (fun hHeld=>?_)
 clear hK K
 refine qsp ?_
 generalize w6.alloc (.cells #[.slice a6 n c6] 29)=v7 at *
 generalize w6.heap.size=X7 at *
 have HL7:=Lib.hid h1;have HN7:=Lib.hid h2;have HRU7:=Lib.hid h3;have HO7:=Lib.hid h4;have HB7:=Lib.hid hB7
 clear h1 h2 h3 h4 hB7
 exact z0yxm2):p:=h
theorem F.info3:(Try.prog.info? 3).map (fun i=>(i.zero,i.size,i.bytes))=some (some (.int .i64 0),1,8):=by kernel_rfl
theorem IsI.src {w:World} {ao:Option Addr} {m c:Nat} {l:List Int} (h:IsI w ao m c l):Src w ao m (l.map iv):=by
 obtain ⟨h1,h2,h3⟩:=h
 cases ao with
 | none=>exact .inl ⟨rfl,(h2 rfl).1⟩
 | some ad =>
  refine .inr ⟨ad,rfl,fun j u hj=>?_⟩
  rcases h3 with h3 | ⟨b,off,h4,h5⟩
  ·subst h3
   obtain rfl:l=[]:=List.length_eq_zero_iff.1 h1
   simp at hj
  ·obtain rfl:ad=⟨b,off,none⟩:=by simpa using h4
   have hjl:j<l.length:=by
    rcases Nat.lt_or_ge j l.length with hlt | hge
    ·exact hlt
    ·simp [List.getElem?_eq_none hge] at hj
   have:=h5 j (by omega)
   rw [Addr.add_lit,this]
   simp [hjl] at hj
   simp [←hj,hjl,iv]
theorem isI_cell1 {w:World} {b:Nat} {z:Int} {t:TypeId} (h:w.heap[b]? = some (.cells #[.int .i64 z] t (0,0))):IsI w (some ⟨b,0,none⟩) 1 1 [z]:=by
 refine ⟨rfl,(fun e=>by cases e),.inr ⟨b,0,rfl,fun i hi=>?_⟩⟩
 obtain rfl:i=0:=by omega
 rw [cell_heap h];rfl
/-- APPEND of numbers -/
theorem wpList_append_if {P:Program} {w:World} {ops:Array Oper} {rest:List Oper} {o:Oper} {a:Act} {Q:Exit→Act→World→Prop} (hgd:o.guard=none) (s x:Operand) (t:TypeId)
  (ho:o.op = .call { callee:=.builtin .append,args:=#[s,x],argTypes:=#[t,t]})
  (e:TypeId) (ht:P.underlying t=some (.slice e)) (hi:(P.info? e).map (fun i=>(i.zero,i.size,i.bytes))=some (some (.int .i64 0),1,8))
  (v:Value) (l:List Int) (hs:a.eval s=v) (hown:OwnI w 0 e v l)
  (ao:Option Addr) (m c:Nat) (l2:List Int) (hx:a.eval x = .slice ao m c) (hsrc:IsI w ao m c l2) (hbytes:l.length+m≤17592186044416)
  (h:∀v' w',OwnI w' 0 e v' (l++l2)→Only v.ownBlock.toList w w'→(∀k,v'.ownBlock=some k→v.ownBlock=some k∨w.heap.size≤k)→wpList P ops Q rest (a.put o.dst v') w'):wpList P ops Q (o::rest) a w:=by
 obtain ⟨i0,hi0,hz0,hz1,hz2⟩:=info_parts hi
 refine wpList_append_foot hgd s x t ho e i0 (.int .i64 0) 1 8 ht hi0 hz0 hz1 hz2 rfl (by decide) v _ _ hs hown ao m c hx (fun e=>(hsrc.nil e).2) (l2.map iv) (by rw [List.length_map,hsrc.len,Nat.mul_one]) hsrc.src ?_ (by unfold maxLen;omega) (by omega) ?_
 ·intro u hu
  obtain ⟨y,_,rfl⟩:=List.mem_map.1 hu
  rfl
 ·intro v' w' g1 g2 g3
  refine h v' w' ?_ g2 g3
  unfold OwnI
  rw [List.length_append,hsrc.len,List.map_append]
  exact g1
theorem ownI_ne {w:World} {b:Nat} {e:TypeId} {v:Value} {l:List Int} {o:Obj} (ho:OwnI w 0 e v l) (h:w.heap[b]? = some o) (hne:∀cur,o ≠ .cells cur e (0,0)):b∉v.ownBlock.toList:=by
 intro hm
 have hk:v.ownBlock=some b:=by simpa using hm
 rcases ho.2 with ⟨rfl,_⟩ | ⟨g,cap,cur,rfl,_,hg,_⟩
 ·simp [Value.ownBlock] at hk
 ·simp [Value.ownBlock] at hk
  subst hk
  rw [hg] at h
  exact hne cur (Option.some.inj h).symm
theorem rows_at {w:World} {e:TypeId} {size n b:Nat} {v:Value} {xs:List Value} (h:w.ownsRow 0 e size v n xs) (hb:v.ownBlock=some b):w.heap[b]? = some (.cells (match w.heap[b]? with | some (.cells cur _ _)=>cur | _=>#[]) e (0,0)):=by
 rcases h.2 with ⟨rfl,_⟩ | ⟨g,cap,cur,rfl,_,hg,_⟩
 ·simp [Value.ownBlock] at hb
 ·simp [Value.ownBlock] at hb
  subst hb
  rw [hg]
theorem src1 {w:World} {b:Nat} {v:Value} {t:TypeId} (h:w.heap[b]? = some (.cells #[v] t (0,0))):Src w (some ⟨b,0,none⟩) 1 [v]:=by
 refine .inr ⟨_,rfl,fun j u hj=>?_⟩
 match j,hj with
 | 0,hj =>
  rw [Addr.add_lit,cell_heap h]
  simpa using hj
section
variable {w:World} {A D L:List Nat} {l d:Nat} {s:Wl} {k:Dk}
def addW (s:Wl) (k:Dk) (rec:List UInt8):Int×Wl×Dk :=
 if offW s k then (10,chkW s 10,k)
 else if 20000<rec.length then (2,s,k)
 else if k.room - (k.total:Int)<((12+rec.length:Nat):Int) then (9,chkW s 9,k)
 else (0,{ chkW s 0 with recs:=s.recs++[rec]},appD k (F.frameF rec))
structure AddP (w w':World) (A D L:List Nat) (l d:Nat) (s':Wl) (k':Dk):Prop where
 ex:∃A' D' L',WD w' A' D' L' l d s' k'∧Moves (D++L) (D'++L') w w'∧Ext A A' w∧∀b∈A,b∈A'
theorem WD.move_D {w':World} {D':List Nat} {k':Dk} (h:WD w A D L l d s k) (hk:IsDk w' D' d k') (m:Moves D D' w w'):WD w' (A++D') D' L l d s k':=by
 have he:Ext A (A++D') w:=fun b hb=>by
  rcases List.mem_append.1 hb with hb | hb
  ·exact .inl hb
  ·exact (m.gr b hb).imp (h.dA b) id
 refine ⟨h.wl.keep m.only h.dis.symm h.dA he,hk,m.dis h.dis h.wl.lt,fun b hb=>by simp [hb],fun b hb=>by simp [h.lA b hb],fun b hb=>?_⟩
 rcases List.mem_append.1 hb with hb | hb
 ·exact Nat.lt_of_lt_of_le (h.alt b hb) m.only.size
 ·exact hk.lt b hb
theorem Only.trans' {S T:List Nat} {a b c:World} (h:Only S a b) (k:Only T b c) (hT:∀x∈T,x<a.heap.size→x∈S):Only S a c :=
 ⟨k.os.trans h.os,k.tape.trans h.tape,k.output.trans h.output,Nat.le_trans h.size k.size,fun i hi hs=>(k.block i (Nat.lt_of_lt_of_le hi h.size) (fun hm=>hs (hT i hm hi))).trans (h.block i hi hs)⟩
theorem endsOf_more (recs:List (List UInt8)) (rec:List UInt8):endsOf (recs++[rec])=endsOf recs++[((F.frames (recs++[rec])).length:Int)]:=by
 unfold endsOf
 rw [List.length_append,List.length_singleton,List.range_succ,List.map_append]
 congr 1
 ·refine List.map_congr_left (fun i hi=>?_)
  have hlt:=List.mem_range.1 hi
  rw [List.take_append_of_le_length (by omega)]
 ·simp only [List.map_cons,List.map_nil]
  rw [List.take_of_length_le (by simp)]
theorem frames_more (recs:List (List UInt8)) (rec:List UInt8):(F.frames (recs++[rec])).length=(F.frames recs).length+(12+rec.length):=by
 rw [F.frames_append,List.length_append]
 simp [F.frames,F.frameF_len]
theorem add_fin {w w2 w4 W6 w8:World} {D3:List Nat} {k3:Dk} {us:List Value} {ar a5 a8:Option Addr} {cr c5 c8 ce:Nat} {ae:Option Addr} {v6:Value} {rec:List UInt8} {z:Int}
  (H:WD w A D L l d s k) (hb2:Below w.heap.size w w2) (M24:Moves (D++L) (D3++L) w2 w4) (H4:WD w4 (A++D3) D3 L l d (chkW s 0) k3)
  (hu:us.length=s.recs.length) (him:∀i,i<s.recs.length→Imm w4 (A++D3) (us.getD i undef) (s.recs.getD i []))
  (hvr:∀b,(Value.slice ar s.recs.length cr).ownBlock=some b→b∈L) (hve:∀b,(Value.slice ae s.recs.length ce).ownBlock=some b→b∈L)
  (hon4:Only L w4 W6) (ho6:OwnI W6 0 3 (.slice a5 (s.recs.length+1) c5) (endsOf s.recs++[z])) (hfr5:∀b,(Value.slice a5 (s.recs.length+1) c5).ownBlock=some b→(Value.slice ae s.recs.length ce).ownBlock=some b∨w4.heap.size≤b)
  (hru6:W6.ownsRow 0 29 1 (.slice ar s.recs.length cr) s.recs.length us)
  (ho8:w8.ownsRow 0 29 1 (.slice a8 (s.recs.length+1) c8) (s.recs.length+1) (us++[v6])) (hv8:OwnB w8 W6.heap.size 5 v6 rec)
  (hl8:w8.heap[l]? = some (.cells #[.pointer (some ⟨d,0,none⟩),.int .i64 s.lives,.bool (s.done || !((0:Int)==0)),.int .i64 1,.slice ar s.recs.length cr,.slice a5 (s.recs.length+1) c5] 99 (0,0)))
  (hon8:Only (Value.slice ar s.recs.length cr).ownBlock.toList W6 w8) (hfr8:∀b,(Value.slice a8 (s.recs.length+1) c8).ownBlock=some b→(Value.slice ar s.recs.length cr).ownBlock=some b∨W6.heap.size≤b)
  (hz:z=((F.frames (s.recs++[rec])).length:Int)) :
  AddP w (w8.setCell ⟨l,4,none⟩ (.slice a8 (s.recs.length+1) c8)) A D L l d { chkW s 0 with recs:=s.recs++[rec]} k3:=by
 have o9:Only [l] w8 (w8.setCell ⟨l,4,none⟩ (.slice a8 (s.recs.length+1) c8)):=(Only.refl _ _).setCell (by simp) _
 have hlL:l∈L:=H4.wl.mem
 have o48:Only L w4 w8:=hon4.trans (hon8.mono (fun b hb=>hvr b (by simpa using hb)))
 have o49:Only L w4 (w8.setCell ⟨l,4,none⟩ (.slice a8 (s.recs.length+1) c8)):=o48.trans (o9.mono (by simpa using hlL))
 have hv5lt:∀b,(Value.slice a5 (s.recs.length+1) c5).ownBlock=some b→b<W6.heap.size:=fun b hb=>(World.ownsRow.lt ho6 b hb).2
 have hv8lt:∀b,(Value.slice a8 (s.recs.length+1) c8).ownBlock=some b→b<w8.heap.size:=fun b hb=>(World.ownsRow.lt ho8 b hb).2
 have s46:=hon4.size
 have s68:=hon8.size
 have s89:=o9.size
 have s24:=M24.only.size
 have s02:=hb2.size
 have hmem:∀b,b∈L++((Value.slice a5 (s.recs.length+1) c5).ownBlock.toList++(Value.slice a8 (s.recs.length+1) c8).ownBlock.toList)→b∈L∨w4.heap.size≤b:=by
  intro b hb
  simp only [List.mem_append,Option.mem_toList] at hb
  rcases hb with hb | hb | hb
  ·exact .inl hb
  ·exact (hfr5 b hb).imp (hve b) id
  ·exact (hfr8 b hb).imp (hvr b) (fun h=>Nat.le_trans s46 h)
 have hlt9:∀b,b∈L++((Value.slice a5 (s.recs.length+1) c5).ownBlock.toList++(Value.slice a8 (s.recs.length+1) c8).ownBlock.toList)→b<w8.heap.size:=by
  intro b hb
  simp only [List.mem_append,Option.mem_toList] at hb
  rcases hb with hb | hb | hb
  ·have:=H4.wl.lt b hb;omega
  ·have:=hv5lt b hb;omega
  ·exact hv8lt b hb
 have hext:Ext (A++D3) ((A++D3)++(L++((Value.slice a5 (s.recs.length+1) c5).ownBlock.toList++(Value.slice a8 (s.recs.length+1) c8).ownBlock.toList))) w4:=by
  intro b hb
  rcases List.mem_append.1 hb with hb | hb
  ·exact .inl hb
  ·exact (hmem b hb).imp (H4.lA b) id
 have ho8':=rows_only0 ho8 o9 (fun b hb hm=>by
  have h1:=rows_at ho8 hb
  rw [List.mem_singleton.1 hm,hl8] at h1
  simp at h1)
 have h6a:OwnI w8 0 3 (.slice a5 (s.recs.length+1) c5) (endsOf s.recs++[z]):=rows_only0 ho6 hon8 (fun b hb hm=>by
  have h1:=rows_at ho6 hb
  have h2:=rows_at hru6 (by simpa using hm)
  rw [h1] at h2
  simp at h2)
 have h6b:=rows_only0 h6a o9 (fun b hb hm=>by
  have h1:=rows_at h6a hb
  rw [List.mem_singleton.1 hm,hl8] at h1
  simp at h1)
 have hnew:Imm (w8.setCell ⟨l,4,none⟩ (.slice a8 (s.recs.length+1) c8)) ((A++D3)++(L++((Value.slice a5 (s.recs.length+1) c5).ownBlock.toList++(Value.slice a8 (s.recs.length+1) c8).ownBlock.toList))) v6 rec:=by
  have hv9:=rows_only0 (hv8.mono (Nat.zero_le _)) o9 (fun b hb hm=>own_ne (hv8.mono (Nat.zero_le _)) hl8 (by simp) (by rw [List.mem_singleton.1 hm] at hb;rw [hb];simp))
  obtain ⟨ao,c,rfl,h1,h2,h3⟩:=own_more hv8
  obtain ⟨ao',c',e,h4⟩:=OwnB.isB (base:=0) hv9
  cases e
  refine ⟨ao,c,rfl,h4,h2,fun p hp=>⟨fun hm=>?_,Nat.lt_of_lt_of_le (h3 p hp).2 s89⟩⟩
  have hge:=(h3 p hp).1
  simp only [List.mem_append,Option.mem_toList] at hm
  rcases hm with (hm | hm) | hm | hm | hm
  ·have:=H4.alt p.block (by simp [hm]);omega
  ·have:=H4.alt p.block (by simp [hm]);omega
  ·have:=H4.wl.lt p.block hm;omega
  ·have:=hv5lt p.block hm;omega
  ·have k1:=rows_at ho8 hm
   exact own_ne (hv8.mono (Nat.zero_le _)) k1 (by simp) (by subst hp;simp [Value.ownBlock])
 refine ⟨(A++D3)++(L++((Value.slice a5 (s.recs.length+1) c5).ownBlock.toList++(Value.slice a8 (s.recs.length+1) c8).ownBlock.toList)),D3,L++((Value.slice a5 (s.recs.length+1) c5).ownBlock.toList++(Value.slice a8 (s.recs.length+1) c8).ownBlock.toList),⟨⟨⟨.slice a8 (s.recs.length+1) c8,.slice a5 (s.recs.length+1) c5,heap_set hl8 4 _,⟨⟨us++[v6],by simp [hu],by rw [show ({ chkW s 0 with recs:=s.recs++[rec]}:Wl).recs.length=s.recs.length+1 by simp];exact ho8',fun i hi=>?_⟩,?_,fun b hb=>by simp [hb],fun b hb=>by simp [hb]⟩⟩,by simp [hlL],fun b hb=>Nat.lt_of_lt_of_le (hlt9 b hb) s89⟩,H4.dk.keep o49 H4.dis,?_,fun b hb=>by simp [hb],fun b hb=>List.mem_append_right _ hb,fun b hb=>?_⟩,?_,?_,fun b hb=>by simp [hb]⟩
 ·have hi':i<s.recs.length+1:=by simpa using hi
  by_cases hlt:i<s.recs.length
  ·have h1:=(him i hlt).step o49 H4.lA hext
   have e1:(us++[v6]).getD i undef=us.getD i undef:=by simp [List.getD,List.getElem?_append_left (show i<us.length by omega)]
   have e2:(s.recs++[rec]).getD i []=s.recs.getD i []:=by simp [List.getD,List.getElem?_append_left hlt]
   show Imm _ _ ((us++[v6]).getD i undef) ((s.recs++[rec]).getD i [])
   rw [e1,e2]
   exact h1
  ·obtain rfl:i=s.recs.length:=by omega
   have e1:(us++[v6]).getD s.recs.length undef=v6:=by rw [←hu];simp [List.getD]
   have e2:(s.recs++[rec]).getD s.recs.length []=rec:=by simp [List.getD]
   show Imm _ _ ((us++[v6]).getD s.recs.length undef) ((s.recs++[rec]).getD s.recs.length [])
   rw [e1,e2]
   exact hnew
 ·show OwnI _ 0 3 _ (endsOf (s.recs++[rec]))
  rw [endsOf_more,←hz]
  exact h6b
 ·intro b hb hm
  rcases hmem b hm with h1 | h1
  ·exact H4.dis b hb h1
  ·have:=H4.dk.lt b hb;omega
 ·rcases List.mem_append.1 hb with hb | hb
  ·have:=H4.alt b hb;omega
  ·exact Nat.lt_of_lt_of_le (hlt9 b hb) s89
 ·refine ⟨((Only.ofBelow hb2 (D++L)).trans M24.only).trans' o49 ?_,fun b hb=>?_,fun b hb=>?_⟩
  ·intro b hb hlt
   simp [hb]
  ·rcases List.mem_append.1 hb with hb | hb
   ·rcases M24.gr b (by simp [hb]) with h1 | h1
    ·exact .inl h1
    ·exact .inr (Nat.le_trans s02 h1)
   ·rcases hmem b hb with h1 | h1
    ·exact .inl (by simp [h1])
    ·right;omega
  ·rcases List.mem_append.1 hb with hb | hb
   ·rcases List.mem_append.1 (M24.sub b (by simp [hb])) with h1 | h1
    ·simp [h1]
    ·simp [h1]
   ·simp [hb]
 ·intro b hb
  rcases List.mem_append.1 hb with hb | hb
  ·rcases List.mem_append.1 hb with hb | hb
   ·exact .inl hb
   ·rcases M24.gr b (by simp [hb]) with h1 | h1
    ·rcases List.mem_append.1 h1 with h1 | h1
     ·exact .inl (H.dA b h1)
     ·exact .inl (H.lA b h1)
    ·exact .inr (Nat.le_trans s02 h1)
  ·rcases hmem b hb with h1 | h1
   ·exact .inl (H.lA b h1)
   ·right;omega
set_option maxHeartbeats 4000000 in
theorem add_any (h:WD w A D L l d s k) (ao:Option Addr) (n c:Nat) (rec:List UInt8) (hi0:Imm w A (.slice ao n c) rec) (hbig:s.recs.length≤1000000) (hroom:k.room≤1048576) (h0:(k.total:Int)≤k.room) (hfl:(F.frames s.recs).length≤1048576) (hn:n≤100000) :
  Calls Try.prog 68 #[.pointer (some ⟨l,0,none⟩),.slice ao n c] w fun e w'=>e = .returned (.int .i64 (addW s k rec).1)∧AddP w w' A D L l d (addW s k rec).2.1 (addW s k rec).2.2:=by
 obtain ⟨hi,hav⟩:IsB w ao n c rec∧∀p,ao=some p→p.block∉A∧p.block<w.heap.size:=by
  obtain ⟨ao',c',e,h1,_,h3⟩:=hi0
  cases e
  exact ⟨h1,h3⟩
 clear hi0
 have HAV:=Lib.hid hav
 clear hav
 have H:=Lib.hid h
 have HI:=Lib.hid hi
 have hlr:rec.length=n:=hi.len
 have HOF:=Lib.hid (off_any h.wl h.dk)
 have hc0:w.cell? ⟨l,0,none⟩=some (.pointer (some ⟨d,0,none⟩)):=by
  obtain ⟨⟨vr,ve,h1,_⟩,_⟩:=h.wl
  rw [cell_heap h1];rfl
 clear h hi
 cases hoff:offW s k with
 | true =>
  rw [hoff] at HOF
  have HA:Hid (addW s k rec=(10,chkW s 10,k)):=Lib.hid (by unfold addW;rw [if_pos hoff])
  clear hoff
  go_enter Try.func68,Try.ntmps68
  go_wp2_with fail
  refine HOF.out.mono ?_
  rintro e w1 ⟨rfl,q,rfl⟩
  have H1:=Lib.hid (H.out.drewN q)
  have HO1:Hid (Only (D++L) w (w.drewN q)):=Lib.hid ((Only.refl _ _).drewN q)
  generalize w.drewN q=W at *
  go_wp2_with fail
  refine (check_any H1.out.wl H1.out.lA 10).mono ?_
  rintro e w2 ⟨rfl,hw2,ho2⟩
  have H2:=Lib.hid (H1.out.only_L hw2 ho2)
  have HO2:=Lib.hid (HO1.out.trans (ho2.mono (fun b hb=>by simp [hb])))
  clear hw2 ho2
  go_wp2_with fail
  go_ret
  rw [HA.out]
  exact ⟨rfl,A,D,L,H2.out,Moves.of_only HO2.out,Ext.refl _ _,fun b hb=>hb⟩
 | false =>
  rw [hoff] at HOF
  have HKO:=Lib.hid (offW_off hoff)
  have HNO:Hid (¬offW s k=true):=Lib.hid (by rw [hoff];decide)
  clear hoff
  by_cases hlong:20000<n
  ·have HA:Hid (addW s k rec=(2,s,k)):=Lib.hid (by unfold addW;rw [if_neg HNO.out,if_pos (by omega)])
   clear hlr
   go_enter Try.func68,Try.ntmps68
   go_wp2_with fail
   refine HOF.out.mono ?_
   rintro e w1 ⟨rfl,q,rfl⟩
   have H1:=Lib.hid (H.out.drewN q)
   have HO1:Hid (Only (D++L) w (w.drewN q)):=Lib.hid ((Only.refl _ _).drewN q)
   generalize w.drewN q=W at *
   go_wp2_with fail
   refine (F.put_long none 0 0 ao n c W hlong (by omega)).mono ?_
   rintro e w2 ⟨rfl,rfl⟩
   go_wp2_with fail
   go_ret
   rw [HA.out]
   exact ⟨rfl,A,D,L,H1.out,Moves.of_only HO1.out,Ext.refl _ _,fun b hb=>hb⟩
  ·have HFR:Hid ((F.frameF rec).length=12+n):=Lib.hid (by rw [F.frameF_len,hlr])
   by_cases hfull:k.room - (k.total:Int)<((12+n:Nat):Int)
   ·have HA:Hid (addW s k rec=(9,chkW s 9,k)):=Lib.hid (by unfold addW;rw [if_neg HNO.out,if_neg (by omega),if_pos (by rw [hlr];exact hfull)])
    have HFU:=Lib.hid hfull
    have HNL:=Lib.hid hlong
    clear hfull hlong hlr
    go_enter Try.func68,Try.ntmps68
    go_wp2_with fail
    refine HOF.out.mono ?_
    rintro e w1 ⟨rfl,q,rfl⟩
    have H1:=Lib.hid (H.out.drewN q)
    have HO1:Hid (Only (D++L) w (w.drewN q)):=Lib.hid ((Only.refl _ _).drewN q)
    have HI1:Hid (IsB (w.drewN q) ao n c rec):=Lib.hid (HI.out.below ⟨rfl,rfl,rfl,Nat.le_refl _,fun _ _=>rfl⟩)
    have hc1:(w.drewN q).cell? ⟨l,0,none⟩=some (.pointer (some ⟨d,0,none⟩)):=hc0
    clear hc0
    generalize w.drewN q=W at *
    go_wp2_with fail
    refine (F.put_ok none 0 0 [] ao n c rec W (isB_nil W) HI1.out (by omega) (by have:=HNL.out;omega)).mono ?_
    rintro e w2 ⟨v2,rfl,ho2,hb2⟩
    rw [List.nil_append] at ho2
    obtain ⟨a2,c2,e2,_⟩:=ho2.isB
    rw [HFR.out] at e2
    subst e2
    have H2:=Lib.hid (H1.out.below hb2)
    have HO2:=Lib.hid (HO1.out.trans (Only.ofBelow hb2 (D++L)))
    have hc2:=cell_later hb2 hc1
    clear ho2 hb2 hc1
    go_wp2_with fail
    refine (append_full H2.out.dk HKO.out logA good_log a2 (12+n) c2 HFU.out (by omega) hroom h0).mono ?_
    rintro e w3 ⟨rfl,hb3⟩
    have H3:=Lib.hid (H2.out.below hb3)
    have HO3:=Lib.hid (HO2.out.trans (Only.ofBelow hb3 (D++L)))
    clear hb3 hc2
    go_wp2_with fail
    refine (check_any H3.out.wl H3.out.lA 9).mono ?_
    rintro e w4 ⟨rfl,hw4,ho4⟩
    have H4:=Lib.hid (H3.out.only_L hw4 ho4)
    have HO4:=Lib.hid (HO3.out.trans (ho4.mono (fun b hb=>by simp [hb])))
    clear hw4 ho4
    go_wp2_with fail
    go_ret
    rw [HA.out]
    exact ⟨rfl,A,D,L,H4.out,Moves.of_only HO4.out,Ext.refl _ _,fun b hb=>hb⟩
   ·have HA:Hid (addW s k rec=(0,{ chkW s 0 with recs:=s.recs++[rec]},appD k (F.frameF rec))):=Lib.hid (by unfold addW;rw [if_neg HNO.out,if_neg (by omega),if_neg (by rw [hlr];exact hfull)])
    have HFU:=Lib.hid hfull
    have HNL:=Lib.hid hlong
    clear hfull hlong hlr
    go_enter Try.func68,Try.ntmps68
    go_wp2_with fail
    refine HOF.out.mono ?_
    rintro e w1 ⟨rfl,q,rfl⟩
    have H1:=Lib.hid (H.out.drewN q)
    have HO1:Hid (Below w.heap.size w (w.drewN q)):=Lib.hid ⟨rfl,rfl,rfl,Nat.le_refl _,fun _ _=>rfl⟩
    have HI1:Hid (IsB (w.drewN q) ao n c rec):=Lib.hid (HI.out.below HO1.out)
    have hc1:(w.drewN q).cell? ⟨l,0,none⟩=some (.pointer (some ⟨d,0,none⟩)):=hc0
    clear hc0
    generalize w.drewN q=W at *
    go_wp2_with fail
    refine (F.put_ok none 0 0 [] ao n c rec W (isB_nil W) HI1.out (by omega) (by have:=HNL.out;omega)).mono ?_
    rintro e w2 ⟨v2,rfl,ho2,hb2⟩
    rw [List.nil_append] at ho2
    obtain ⟨a2,c2,e2,hi2⟩:=ho2.isB
    rw [HFR.out] at e2 hi2
    subst e2
    have H2:=Lib.hid (H1.out.below hb2)
    have HO2:=Lib.hid (HO1.out.trans (hb2.mono HO1.out.size))
    have HI2:=Lib.hid hi2
    have HR2:=Lib.hid (HI1.out.below hb2)
    have hc2:=cell_later hb2 hc1
    clear ho2 hb2 hc1 hi2
    go_wp2_with fail
    refine (append_ok H2.out.dk HKO.out a2 (12+n) c2 (F.frameF rec) HI2.out (by have:=HFU.out;omega) hroom).mono ?_
    rintro e w3 ⟨D3,rfl,hd3,m3⟩
    have H3:=Lib.hid (H2.out.move_D hd3 m3)
    have HM3:=Lib.hid m3
    have HR3:Hid (IsB w3 ao n c rec):=Lib.hid (isB_avoid HR2.out m3.only (fun b off i hb hm=>(HAV.out _ hb.1).1 (H.out.dA b hm)))
    clear hd3 m3 hc2
    go_wp2_with fail
    refine (check_any H3.out.wl H3.out.lA 0).mono ?_
    rintro e w4 ⟨rfl,hw4,ho4⟩
    have H4:=Lib.hid (H3.out.only_L hw4 ho4)
    have HO4:=Lib.hid ho4
    clear hw4 ho4
    go_upto_region 9 with (fail)
    have HR4:Hid (IsB w4 ao n c rec):=Lib.hid (isB_avoid HR3.out HO4.out (fun b off i hb hm=>(HAV.out _ hb.1).1 (H.out.lA b hm)))
    obtain ⟨⟨vr,ve,k1,k2⟩,k3,k4⟩:=H4.out.wl
    obtain ⟨⟨us,hu,hru,him⟩,hre,hvr,hve⟩:=k2
    obtain ⟨ar,cr,e1,_,_⟩:=rows_form hru
    subst e1
    obtain ⟨ae,ce,e2,_⟩:=hre.isI
    rw [endsOf_len] at e2
    subst e2
    have HEV0:Hid (OwnI w4.drew 0 3 (.slice ae s.recs.length ce) (endsOf s.recs)):=Lib.hid hre
    have h9:=wend_any (H4.out.wl.below (below_drew1 w4)) s.recs.length (Nat.le_refl _) (show (chkW s 0).recs.length≤1000000000 from Nat.le_trans hbig (by decide))
    have e9:(chkW s 0).recs.take s.recs.length=s.recs:=List.take_length
    rw [e9] at h9
    have hlen:(endsOf s.recs).length+1≤17592186044416:=by rw [endsOf_len];omega
    have HRU:=Lib.hid (And.intro hu (And.intro hru (And.intro him (And.intro hvr hve))))
    have HK3:=Lib.hid k3
    have hk1:w4.drew.heap[l]? = some (.cells #[.pointer (some ⟨d,0,none⟩),.int .i64 s.lives,.bool (s.done || !((0:Int)==0)),.int .i64 1,.slice ar s.recs.length cr,.slice ae s.recs.length ce] 99 (0,0)):=k1
    have HLW:=Lib.hid hk1
    clear k1 k3 k4 hu hru him hre hvr hve e9 hk1
    generalize hm9:12+n=m9 at *
    generalize hfl9:(F.frames s.recs).length=fl at *
    have HM9:=Lib.hid hm9;have HFL9:=Lib.hid hfl9
    have hm9b:m9≤200000:=by omega
    clear hm9 hfl9
    have HEND:=Lib.hid h9
    clear h9
    have q1:IntKind.i64.wrap ((fl:Int)+(m9:Int))=(fl:Int)+(m9:Int):=IntWalk.i64_in _ (by omega)
    go_cut [] (fun wx=>∃a5 c5 w5,wx=w5.setCell ⟨l,5,none⟩ (.slice a5 (s.recs.length+1) c5)∧OwnI w5 0 3 (.slice a5 (s.recs.length+1) c5) (endsOf s.recs++[(fl:Int)+(m9:Int)])∧Only (Value.slice ae s.recs.length ce).ownBlock.toList w4.drew w5∧∀k,(Value.slice a5 (s.recs.length+1) c5).ownBlock=some k→(Value.slice ae s.recs.length ce).ownBlock=some k∨w4.drew.heap.size≤k)
    case first =>
     refine wp_region_held_drew (S:=fun w'=>w'.cell? ⟨l,4,none⟩=some (.slice ar s.recs.length cr)) (by kernel_rfl) ((cell_heap HLW.out 4).trans rfl) (fun hHeld=>?_)
     refine qtl 0 (z0yx0 _) rfl ?_
     refine qtl 1 (z0yx1 _) rfl ?_
     refine qtl 2 (z0yx2 _) rfl ?_
     refine qtl 3 (z0yx3 _) rfl ?_
     refine qtl 5 (z0yx4 _) rfl ?_
     refine qtl 6 (z0yx5 _) rfl ?_
     refine qtl 7 (z0yx6 _) rfl ?_
     refine qtl 8 (z0yx7 _) rfl ?_
     refine qtl 9 (z0yx8 _) rfl ?_
     refine qtl 10 (z0yx9 _) rfl ?_
     refine qtl 12 (z0yx10 _) rfl ?_
     refine qtl 13 (z0yx11 _) rfl ?_
     generalize w4.drew=V at *
     refine qr2 4 11 (z0yx12 _) (z0yx13 _) rfl rfl (fun K hK=>?_) fun K hK=>?_
     ·unfold z0yx12
      have hy:V.cell? ⟨l,5,none⟩=some (.slice ae s.recs.length ce):=(cell_heap HLW.out 5).trans rfl
      go_simp
      clear hy
      refine hK.out _ _ hHeld (fun hHeld=>?_)
      clear hK K
      refine qsp ?_
      refine qr1 11 (z0yx13 _) rfl fun K hK=>?_
      unfold z0yx13
      go_simp
      refine HEND.out.mono ?_
      rintro e wq ⟨rfl,rfl⟩
      go_wp2_with fail
      refine hK.out _ _ hHeld (fun hHeld=>?_)
      clear hK K
      refine qsp ?_
      refine qtl 14 (z0yx14 _) rfl ?_
      exact z0yxm1
     ·unfold z0yx13
      go_simp
      refine HEND.out.mono ?_
      rintro e wq ⟨rfl,rfl⟩
      go_wp2_with fail
      refine hK.out _ _ hHeld (fun hHeld=>?_)
      clear hK K
      refine qsp ?_
      refine qtl 14 (z0yx14 _) rfl ?_
      refine qr2 4 15 (z0yx12 _) (z0yx15 _) rfl rfl (fun K hK=>?_) fun K hK=>?_
      ·unfold z0yx12
       have hy:V.cell? ⟨l,5,none⟩=some (.slice ae s.recs.length ce):=(cell_heap HLW.out 5).trans rfl
       go_simp
       clear hy
       refine hK.out _ _ hHeld (fun hHeld=>?_)
       clear hK K
       refine qsp ?_
       exact z0yxm1
      ·unfold z0yx15
       go_simp
       have h1:=heap_old HLW.out (.cells #[.int .i64 ((fl:Int)+(m9:Int))] 3)
       have h2:=heap_new V (.cells #[.int .i64 ((fl:Int)+(m9:Int))] 3)
       have h3:OwnI (V.alloc (.cells #[.int .i64 ((fl:Int)+(m9:Int))] 3)) 0 3 (.slice ae s.recs.length ce) (endsOf s.recs):=HEV0.out.alloc _
       have hB1:Below V.heap.size V (V.alloc (.cells #[.int .i64 ((fl:Int)+(m9:Int))] 3)):=(Below.refl _ _).alloc (Nat.le_refl _) _
       refine hK.out _ _ ((cell_heap h1 4).trans rfl) (fun hHeld=>?_)
       clear hK K
       refine qsp ?_
       generalize V.alloc (.cells #[.int .i64 ((fl:Int)+(m9:Int))] 3)=v1 at *
       have HL1:=Lib.hid h1;have HN1:=Lib.hid h2;have HE1:=Lib.hid h3;have HB1:=Lib.hid hB1
       clear h1 h2 h3 hB1
       refine qr1 4 (z0yx12 _) rfl fun K hK=>?_
       unfold z0yx12
       have hy:v1.cell? ⟨l,5,none⟩=some (.slice ae s.recs.length ce):=(cell_heap HL1.out 5).trans rfl
       go_simp
       clear hy
       refine hK.out _ _ hHeld (fun hHeld=>?_)
       clear hK K
       refine qsp ?_
       exact z0yxm0
    case rest =>
     obtain ⟨a5,c5,w5,rfl,ho5,hon5,hfr5⟩:=hcut
     have o5:Only [l] w5 (w5.setCell ⟨l,5,none⟩ (.slice a5 (s.recs.length+1) c5)):=(Only.refl _ _).setCell (by simp) _
     have hl5:=hon5.keeps HLW.out (ownI_ne HEV0.out HLW.out (by simp))
     have hl6:=heap_set hl5 5 (.slice a5 (s.recs.length+1) c5)
     have ho6:OwnI (w5.setCell ⟨l,5,none⟩ (.slice a5 (s.recs.length+1) c5)) 0 3 (.slice a5 (s.recs.length+1) c5) (endsOf s.recs++[(fl:Int)+(m9:Int)]):=rows_only0 ho5 o5 (fun b hb hm=>ownI_ne ho5 hl5 (by simp) (by rw [List.mem_singleton.1 hm] at hb;rw [hb];simp))
     have hsz5:w4.heap.size≤(w5.setCell ⟨l,5,none⟩ (.slice a5 (s.recs.length+1) c5)).heap.size:=Nat.le_trans hon5.size o5.size
     have HL6:=Lib.hid hl6;have HO6:=Lib.hid ho6;have HFR5:=Lib.hid hfr5
     have HVE:∀k,(Value.slice ae s.recs.length ce).ownBlock=some k→k∈L:=HRU.out.2.2.2.2
     have hon4:Only L w4 (w5.setCell ⟨l,5,none⟩ (.slice a5 (s.recs.length+1) c5)):=((Only.ofBelow (below_drew1 w4) L).trans (hon5.mono (fun b hb=>HVE b (by simpa using hb)))).trans (o5.mono (by simpa using HK3.out))
     have HON4:=Lib.hid hon4
     have HR6:Hid (IsB (w5.setCell ⟨l,5,none⟩ (.slice a5 (s.recs.length+1) c5)) ao n c rec):=Lib.hid (isB_avoid HR4.out hon4 (fun b off i hb hm=>(HAV.out _ hb.1).1 (H.out.lA b hm)))
     have hru6:(w5.setCell ⟨l,5,none⟩ (.slice a5 (s.recs.length+1) c5)).ownsRow 0 29 1 (.slice ar s.recs.length cr) s.recs.length us:=by
       have r1:w4.drew.ownsRow 0 29 1 (.slice ar s.recs.length cr) s.recs.length us:=HRU.out.2.1
       have r2:=rows_only0 r1 hon5 (fun b hb hm=>ownI_ne HEV0.out (rows_at r1 hb) (by simp) hm)
       exact rows_only0 r2 o5 (fun b hb hm=>by
         have r3:=rows_at r2 hb
         rw [List.mem_singleton.1 hm,hl5] at r3
         simp at r3)
     have HRU6:=Lib.hid hru6
     have HSZ5:=Lib.hid hsz5
     clear o5 hl5 hl6 ho6 hsz5 hon4 hru6 ho5 hon5 hfr5 HVE
     generalize (w5.setCell ⟨l,5,none⟩ (.slice a5 (s.recs.length+1) c5))=W6 at *
     go_upto_region 10 with (fail)
     have HLV:Hid (W6.drew.heap[l]? = some (.cells #[.pointer (some ⟨d,0,none⟩),.int .i64 s.lives,.bool (s.done || !((0:Int)==0)),.int .i64 1,.slice ar s.recs.length cr,.slice a5 (s.recs.length+1) c5] 99 (0,0))):=Lib.hid HL6.out
     have HRV:Hid (IsB W6.drew ao n c rec):=Lib.hid (HR6.out.below (below_drew1 W6))
     have HRUV:Hid (W6.drew.ownsRow 0 29 1 (.slice ar s.recs.length cr) s.recs.length us):=Lib.hid HRU6.out
     have HLR:Hid (rec.length=n):=Lib.hid HR6.out.len
     obtain ⟨i0,hi0⟩:=info_parts F.info29
     have HI0:=Lib.hid hi0
     clear hi0
     go_cut [] (fun wx=>∃a8 c8 v6 w8,wx=w8.setCell ⟨l,4,none⟩ (.slice a8 (s.recs.length+1) c8)∧w8.ownsRow 0 29 1 (.slice a8 (s.recs.length+1) c8) (s.recs.length+1) (us++[v6])∧OwnB w8 W6.drew.heap.size 5 v6 rec∧w8.heap[l]? = some (.cells #[.pointer (some ⟨d,0,none⟩),.int .i64 s.lives,.bool (s.done || !((0:Int)==0)),.int .i64 1,.slice ar s.recs.length cr,.slice a5 (s.recs.length+1) c5] 99 (0,0))∧Only (Value.slice ar s.recs.length cr).ownBlock.toList W6.drew w8∧∀k,(Value.slice a8 (s.recs.length+1) c8).ownBlock=some k→(Value.slice ar s.recs.length cr).ownBlock=some k∨W6.drew.heap.size≤k)
     case first =>
       refine wp_region_held_drew (S:=fun _=>True) (by kernel_rfl) trivial (fun hHeld=>?_)
       refine qtl 0 (z0yx20 _) rfl ?_
       refine qtl 1 (z0yx21 _) rfl ?_
       refine qtl 2 (z0yx22 _) rfl ?_
       refine qtl 3 (z0yx23 _) rfl ?_
       refine qtl 5 (z0yx24 _) rfl ?_
       generalize W6.drew=V at *
       refine qr2 4 6 (z0yx25 _) (z0yx26 _) rfl rfl (fun K hK=>?_) fun K hK=>?_
       ·unfold z0yx25
        have hy:V.cell? ⟨l,4,none⟩=some (.slice ar s.recs.length cr):=(cell_heap HLV.out 4).trans rfl
        go_simp
        clear hy
        refine hK.out _ _ trivial (fun hHeld=>?_)
        clear hK K
        refine qsp ?_
        refine qr1 6 (z0yx26 _) rfl fun K hK=>?_
        unfold z0yx26
        go_simp
        refine (F.clone_any ao n c rec _ HRV.out (by omega)).mono ?_
        rintro e w6 ⟨v6,rfl,ho6,hb6⟩
        obtain ⟨a6,c6,e6,_⟩:=ho6.isB
        rw [HLR.out] at e6
        subst e6
        have HB6:=Lib.hid hb6
        have HO6b:=Lib.hid ho6
        have HL6b:=Lib.hid (heap_below3 hb6 (lt_of_heap HLV.out) HLV.out)
        have HRU6b:=Lib.hid (rows_only0 HRUV.out (Only.ofBelow hb6 []) (fun b _=>by simp))
        clear ho6 hb6
        go_wp2_with fail
        exact z0yxm3
       ·unfold z0yx26
        go_simp
        refine (F.clone_any ao n c rec _ HRV.out (by omega)).mono ?_
        rintro e w6 ⟨v6,rfl,ho6,hb6⟩
        obtain ⟨a6,c6,e6,_⟩:=ho6.isB
        rw [HLR.out] at e6
        subst e6
        have HB6:=Lib.hid hb6
        have HO6b:=Lib.hid ho6
        have HL6b:=Lib.hid (heap_below3 hb6 (lt_of_heap HLV.out) HLV.out)
        have HRU6b:=Lib.hid (rows_only0 HRUV.out (Only.ofBelow hb6 []) (fun b _=>by simp))
        clear ho6 hb6
        go_wp2_with fail
        refine hK.out _ _ trivial (fun hHeld=>?_)
        clear hK K
        refine qsp ?_
        refine qr2 4 7 (z0yx25 _) (z0yx27 _) rfl rfl (fun K hK=>?_) fun K hK=>?_
        ·unfold z0yx25
         have hy:w6.cell? ⟨l,4,none⟩=some (.slice ar s.recs.length cr):=(cell_heap HL6b.out 4).trans rfl
         go_simp
         clear hy
         exact z0yxm3
        ·unfold z0yx27
         go_simp
         have h1:=heap_old HL6b.out (.cells #[.slice a6 n c6] 29)
         have h2:=heap_new w6 (.cells #[.slice a6 n c6] 29)
         have h3:=World.ownsRow.alloc HRU6b.out (.cells #[.slice a6 n c6] 29)
         have h4:=HO6b.out.alloc (.cells #[.slice a6 n c6] 29)
         have hB7:Below V.heap.size V (w6.alloc (.cells #[.slice a6 n c6] 29)):=HB6.out.alloc HB6.out.size _
         refine hK.out _ _ trivial (fun hHeld=>?_)
         clear hK K
         refine qsp ?_
         generalize w6.alloc (.cells #[.slice a6 n c6] 29)=v7 at *
         generalize w6.heap.size=X7 at *
         have HL7:=Lib.hid h1;have HN7:=Lib.hid h2;have HRU7:=Lib.hid h3;have HO7:=Lib.hid h4;have HB7:=Lib.hid hB7
         clear h1 h2 h3 h4 hB7
         refine qr1 4 (z0yx25 _) rfl fun K hK=>?_
         unfold z0yx25
         have hy:v7.cell? ⟨l,4,none⟩=some (.slice ar s.recs.length cr):=(cell_heap HL7.out 4).trans rfl
         go_simp
         clear hy
         refine hK.out _ _ trivial (fun hHeld=>?_)
         clear hK K
         refine qsp ?_
         exact z0yxm2
     case rest =>
       obtain ⟨a8,c8,v6,w8,rfl,ho8,hv8,hl8,hon8,hfr8⟩:=hcut
       have hz:((fl:Int)+(m9:Int))=((F.frames (s.recs++[rec])).length:Int):=by
         rw [frames_more,HFL9.out,HLR.out,HM9.out];omega
       have M24:Moves (D++L) (D3++L) w2 w4:=by
         have m1:Moves (D++L) (D3++L) w2 w3:=⟨HM3.out.only.mono (fun b hb=>by simp [hb]),fun b hb=>by
          rcases List.mem_append.1 hb with hb | hb
          ·exact (HM3.out.gr b hb).imp (fun h=>by simp [h]) id
          ·exact .inl (by simp [hb]),fun b hb=>by
          rcases List.mem_append.1 hb with hb | hb
          ·simp [HM3.out.sub b hb]
          ·simp [hb]⟩
         exact m1.trans (Moves.of_only (HO4.out.mono (fun b hb=>by simp [hb])))
       have hfin:=add_fin (w8:=w8) (W6:=W6) H.out HO2.out M24 H4.out HRU.out.1 HRU.out.2.2.1 HRU.out.2.2.2.1 HRU.out.2.2.2.2 HON4.out HO6.out HFR5.out HRU6.out ho8 hv8 hl8 (show Only _ W6 w8 from ⟨hon8.os,hon8.tape,hon8.output,hon8.size,hon8.block⟩) hfr8 hz
       have HFIN:=Lib.hid hfin
       clear hfin M24 hz ho8 hv8 hl8 hon8 hfr8
       go_wp2_with fail
       go_ret
       rw [HA.out]
       exact ⟨rfl,HFIN.out⟩
end
end Go.Proofs.Ytnicaicjgaoolaa
