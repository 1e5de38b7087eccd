/-
  What the proof of the law leans on: contracts of the program's functions, one behind another. No condition.
-/
import Derived.Test.YtnhefallmioefaaGreatV0
import Derived.Test.YtnhefallmioefaaGreatV4
import Derived.Test.YtnhefallmioefaaGreatV5
import Derived.Test.YtnhefallmioefaaGreatV3
set_option linter.unusedVariables false
set_option linter.unusedSimpArgs false
namespace Go.Proofs.YtnhefallmioefaaGreat
open Go.RowKit Go.ChangeMaps Go.WideMaps Go.Maps
set_option maxRecDepth 20000
def Dis (A B:List Nat):Prop:=∀x∈A,x∉B
theorem Dis.symm {A B:List Nat} (h:Dis A B):Dis B A:=λx hb ha=>h x ha hb
def Ext (A A':List Nat) (w:World):Prop:=∀b∈A',b∈A\/w.heap.size<=b
theorem Ext.refl (A:List Nat) (w:World):Ext A A w:=λb h=>.inl h
theorem Moves.dis {D D' X:List Nat} {w w':World} (h:Moves D D' w w') (hd:Dis D X) (hx:∀b∈X,b<w.heap.size):Dis D' X:=λb hb hX=>by
 rcases h.gr b hb with h1 | h1
 ·exact hd b h1 hX
 ·have:=hx b hX;omega
def Imm (w:World) (A:List Nat) (v:Value) (l:List UInt8):Prop:=∃ao c,v = .slice ao l.length c/\IsB w ao l.length c l/\l.length<=c/\∀p,ao=some p->p.block∉A/\p.block<w.heap.size
theorem Imm.step {w w':World} {A A' S:List Nat} {v:Value} {l:List UInt8} (h:Imm w A v l) (ho:Only S w w') (hS:∀b∈S,b∈A) (he:Ext A A' w):Imm w' A' v l:=by
 obtain ⟨ao,c,rfl,h1,h2,h3⟩:=h;refine ⟨ao,c,rfl,iH h1 ho (λb off i hb=>λhm=>(h3 _ hb.1).1 (hS b hm)),h2,λp hp=>?_⟩;obtain ⟨h4,h5⟩:=h3 p hp;refine ⟨λhm=>?_,aE h5 ho.size⟩;rcases he _ hm with h6 | h6
 ·exact h4 h6
 ·omega
theorem Imm.below {w w':World} {A:List Nat} {v:Value} {l:List UInt8} (h:Imm w A v l) (hb:Below w.heap.size w w'):Imm w' A v l:=h.step (Only.ofBelow hb []) (λb hb=>by cases hb) (Ext.refl _ _)
theorem Imm.new {w w':World} {A:List Nat} {v:Value} {l:List UInt8} (h:OwnB w' w.heap.size 5 v l) (hA:∀b∈A,b<w.heap.size):Imm w' A v l:=by
 obtain ⟨ao,c,rfl,h1,h2,h3⟩:=gz h;exact ⟨ao,c,rfl,h1,h2,λp hp=>⟨λhm=>by have:=hA _ hm;have:=(h3 p hp).1;omega,(h3 p hp).2⟩⟩
theorem Imm.mono {w:World} {A A':List Nat} {v:Value} {l:List UInt8} (h:Imm w A' v l) (hs:∀b∈A,b∈A'):Imm w A v l:=by
 obtain ⟨ao,c,h0,h1,h2,h3⟩:=h;exact ⟨ao,c,h0,h1,h2,λp hp=>⟨λhm=>(h3 p hp).1 (hs _ hm),(h3 p hp).2⟩⟩
structure Wl where
 lives:Int
 done:Bool
 recs:List (List UInt8)
def cD (recs:List (List UInt8)):List Int:=(List.range recs.length).map λi=>((F.aL (recs.take (i+1))).length:Int)
theorem eU (recs:List (List UInt8)):(cD recs).length=recs.length:=by simp [cD]
structure WRows (w:World) (A L:List Nat) (vr ve:Value) (recs:List (List UInt8)):Prop where
 rr:∃us:List Value,us.length=recs.length/\w.ownsRow 0 31 1 vr recs.length us/\∀i,i<recs.length->Imm w A (us.getD i undef) (recs.getD i [])
 re:OwnI w 0 3 ve (cD recs)
 vrL:∀k,vr.ownBlock=some k->k∈L
 veL:∀k,ve.ownBlock=some k->k∈L
structure IsWl (w:World) (A L:List Nat) (l d:Nat) (s:Wl):Prop where
 ex:∃vr ve,w.heap[l]? = some (.cells #[.pointer (some ⟨d,0,none⟩),.int .i64 s.lives,.bool s.done,.int .i64 1,vr,ve] 103 (0,0))/\WRows w A L vr ve s.recs
 mem:l∈L
 lt:∀b∈L,b<w.heap.size
theorem WRows.keep {w w':World} {A A' L S:List Nat} {vr ve:Value} {recs:List (List UInt8)} (h:WRows w A L vr ve recs) (ho:Only S w w') (hL:∀b∈L,b∉S) (hS:∀b∈S,b∈A) (he:Ext A A' w):WRows w' A' L vr ve recs:=by
 obtain ⟨⟨us,h1,h2,h3⟩,h4,h5,h6⟩:=h;exact ⟨⟨us,h1,bu h2 ho (λk hk=>hL k (h5 k hk)),λi hi=>(h3 i hi).step ho hS he⟩,bu h4 ho (λk hk=>hL k (h6 k hk)),h5,h6⟩
theorem IsWl.keep {w w':World} {A A' L S:List Nat} {l d:Nat} {s:Wl} (h:IsWl w A L l d s) (ho:Only S w w') (hL:∀b∈L,b∉S) (hS:∀b∈S,b∈A) (he:Ext A A' w):IsWl w' A' L l d s:=by
 obtain ⟨⟨vr,ve,h1,h2⟩,h3,h4⟩:=h;exact ⟨⟨vr,ve,ho.keeps h1 (hL _ h3),h2.keep ho hL hS he⟩,h3,λb hb=>aE (h4 b hb) ho.size⟩
theorem IsWl.below {w w':World} {A L:List Nat} {l d:Nat} {s:Wl} (h:IsWl w A L l d s) (hb:Below w.heap.size w w'):IsWl w' A L l d s:=h.keep (Only.ofBelow hb []) (λb _=>by simp) (λb hb=>by cases hb) (Ext.refl _ _)
section
variable {w:World} {A D L:List Nat} {l d:Nat} {s:Wl} {k:Dk}
theorem wS (h:IsWl w A L l d s):Calls Tryz.prog 55 #[.pointer (some ⟨l,0,none⟩)] w λe w'=>e = .returned (.int .i64 1)/\w=w':=by
 obtain ⟨⟨vr,ve,h1,_⟩,_⟩:=h;have hc:w.cell? ⟨l,3,none⟩=some (.int .i64 1):=by rw [af h1];rfl
 clear h1;go_enter Tryz.func55,Tryz.ntmps55
 go_wp2_with fail
 go_ret
 exact ⟨rfl,rfl⟩
theorem kV (h:IsWl w A L l d s) (hl:s.recs.length<=1000000000):Calls Tryz.prog 56 #[.pointer (some ⟨l,0,none⟩)] w λe w'=>e = .returned (.int .i64 (1+(s.recs.length:Int)))/\∃q,w'=w.drewN q:=by
 obtain ⟨⟨vr,ve,h1,⟨us,hu,hr,_⟩,_⟩,_⟩:=h;obtain ⟨ao,c,rfl,_,_⟩:=du hr;have hc:w.cell? ⟨l,3,none⟩=some (.int .i64 1):=by rw [af h1];rfl
 have hc4:w.cell? ⟨l,4,none⟩=some (.slice ao s.recs.length c):=by rw [af h1];rfl
 have q1:IntKind.i64.wrap (1+(s.recs.length:Int))=1+(s.recs.length:Int):=IntWalk.i64_in _ (by omega);clear h1 hu hr;go_enter Tryz.func56,Tryz.ntmps56
 go_wp2_with fail
 go_quiet (fail)
 go_wp2_with fail
 go_ret
 exact ⟨rfl,nq,rfl⟩
def kS (s:Wl) (k:Dk):Bool:=s.done||(!(k.lives==s.lives)||k.off)
set_option maxHeartbeats 1000000 in
theorem pZ (h:IsWl w A L l d s) (hd:IsDk w D d k):Calls Tryz.prog 87 #[.pointer (some ⟨l,0,none⟩)] w λe w'=>e = .returned (.bool (kS s k))/\∃q,w'=w.drewN q:=by
 have HD:=ab hd;obtain ⟨⟨vr,ve,h1,_⟩,_⟩:=h;have hc0:w.cell? ⟨l,0,none⟩=some (.pointer (some ⟨d,0,none⟩)):=by rw [af h1];rfl
 have hc1:w.cell? ⟨l,1,none⟩=some (.int .i64 s.lives):=by rw [af h1];rfl
 have hc2:w.cell? ⟨l,2,none⟩=some (.bool s.done):=by rw [af h1];rfl
 clear h1 hd;unfold kS;generalize s.done=dn at *;generalize s.lives=sl at *;cases dn with
 | true =>
  go_enter Tryz.func87,Tryz.ntmps87
  go_upto_region 1 with (fail)
  refine wp_region_held_drew (S:=λw'=>w'.cell? ⟨l,0,none⟩=some (.pointer (some ⟨d,0,none⟩))/\w'.cell? ⟨l,1,none⟩=some (.int .i64 sl)/\w'.cell? ⟨l,2,none⟩=some (.bool true)) (by kernel_rfl) ⟨hc0,hc1,hc2⟩ (λam=>?_);refine aB 0 ?_;refine aB 1 ?_;refine aB 2 ?_;refine aB 3 ?_;refine aB 4 ?_;refine bP 5 ?_;refine bP 6 ?_;refine bP 7 ?_;refine bP 8 ?_;refine bP 9 ?_;refine bP 10 ?_;refine bP 11 ?_;refine bP 12 ?_;refine bP 13 ?_;refine bP 14 ?_;refine aB 15 ?_;refine aB 16 ?_;refine bP 17 ?_;refine bP 18 ?_;refine bP 19 ?_;refine bP 20 ?_;refine bP 21 ?_;refine bP 22 ?_;refine aB 23 ?_;refine aB 24 ?_;refine fI ?_;go_wp2_with fail
  go_ret
  exact ⟨by simp,1,rfl⟩
 | false =>
  by_cases hl:k.lives=sl
  ·have hlb:(k.lives==sl)=true:=by simpa using hl
   rw [hlb];have hne:(k.lives != sl)=false:=by rw [bne,hlb];rfl
   clear hl hlb;go_enter Tryz.func87,Tryz.ntmps87
   go_upto_region 1 with (fail)
   refine wp_region_held_drew (S:=λw'=>w'.cell? ⟨l,0,none⟩=some (.pointer (some ⟨d,0,none⟩))/\w'.cell? ⟨l,1,none⟩=some (.int .i64 sl)/\w'.cell? ⟨l,2,none⟩=some (.bool false)) (by kernel_rfl) ⟨hc0,hc1,hc2⟩ (λam=>?_);refine aB 0 ?_;refine aB 1 ?_;refine aB 2 ?_;refine aB 3 ?_;refine aB 4 ?_;refine aB 5 ?_;refine aB 6 ?_;refine aB 7 ?_;refine aB 8 ?_;refine aB 10 ?_;refine aB 11 ?_;refine aB 12 ?_;refine aB 13 ?_;refine cC 9 λK hK=>?_;go_simp
   refine (fE (HD.out.below (bq w))).mono ?_;rintro e wa ⟨rfl,rfl⟩;go_wp2_with fail
   refine hK.out _ _ am (λam=>?_);clear hK K;refine bH ?_;refine aB 14 ?_;refine aB 15 ?_;refine aB 16 ?_;refine aB 17 ?_;refine aB 18 ?_;refine aB 19 ?_;refine aB 20 ?_;refine cC 21 λK hK=>?_;go_simp
   refine (lJ (HD.out.below (bq w))).mono ?_;rintro e wb ⟨rfl,rfl⟩;go_wp2_with fail
   refine hK.out _ _ am (λam=>?_);clear hK K;refine bH ?_;refine aB 22 ?_;refine aB 23 ?_;refine aB 24 ?_;refine fI ?_;go_wp2_with fail
   go_ret
   exact ⟨by simp,1,rfl⟩
  ·have hlb:(k.lives==sl)=false:=by simpa using hl
   rw [hlb];have hne:(k.lives != sl)=true:=by rw [bne,hlb];rfl
   clear hl hlb;go_enter Tryz.func87,Tryz.ntmps87
   go_upto_region 1 with (fail)
   refine wp_region_held_drew (S:=λw'=>w'.cell? ⟨l,0,none⟩=some (.pointer (some ⟨d,0,none⟩))/\w'.cell? ⟨l,1,none⟩=some (.int .i64 sl)/\w'.cell? ⟨l,2,none⟩=some (.bool false)) (by kernel_rfl) ⟨hc0,hc1,hc2⟩ (λam=>?_);refine aB 0 ?_;refine aB 1 ?_;refine aB 2 ?_;refine aB 3 ?_;refine aB 4 ?_;refine aB 5 ?_;refine aB 6 ?_;refine aB 7 ?_;refine aB 8 ?_;refine aB 10 ?_;refine aB 11 ?_;refine aB 12 ?_;refine aB 13 ?_;refine cC 9 λK hK=>?_;go_simp
   refine (fE (HD.out.below (bq w))).mono ?_;rintro e wa ⟨rfl,rfl⟩;go_wp2_with fail
   refine hK.out _ _ am (λam=>?_);clear hK K;refine bH ?_;refine aB 14 ?_;refine aB 15 ?_;refine aB 16 ?_;refine bP 17 ?_;refine bP 18 ?_;refine bP 19 ?_;refine bP 20 ?_;refine bP 21 ?_;refine bP 22 ?_;refine aB 23 ?_;refine aB 24 ?_;refine fI ?_;go_wp2_with fail
   go_ret
   exact ⟨by simp,1,rfl⟩
def jE (s:Wl) (e:Int):Wl:={ s with done:=s.done || !(e==0)}
theorem WRows.only_l {w':World} {vr ve:Value} {recs:List (List UInt8)} {cs:Array Value} (h:WRows w A L vr ve recs) (ho:Only [l] w w') (hl:w.heap[l]? = some (.cells cs 103 (0,0))) (hA:l∈A):WRows w' A L vr ve recs:=by
 obtain ⟨⟨us,h1,h2,h3⟩,h4,h5,h6⟩:=h;refine ⟨⟨us,h1,bu h2 ho (λb hb hm=>?_),λi hi=>(h3 i hi).step ho (by simpa using hA) (Ext.refl _ _)⟩,bu h4 ho (λb hb hm=>?_),h5,h6⟩
 ·rcases h2.2 with ⟨rfl,_⟩ | ⟨g,cap,cur,rfl,_,hg,_⟩
  ·simp [Value.ownBlock] at hb
  ·simp [Value.ownBlock] at hb;rw [aj.1 hm] at hb;subst hb;rw [hg] at hl;simp at hl
 ·rcases h4.2 with ⟨rfl,_⟩ | ⟨g,cap,cur,rfl,_,hg,_⟩
  ·simp [Value.ownBlock] at hb
  ·simp [Value.ownBlock] at hb;rw [aj.1 hm] at hb;subst hb;rw [hg] at hl;simp at hl
theorem iO (h:IsWl w A L l d s) (hA:∀b∈L,b∈A) (e0:Int):Calls Tryz.prog 88 #[.pointer (some ⟨l,0,none⟩),.int .i64 e0] w λe w'=>e = .returned (.int .i64 e0)/\IsWl w' A L l d (jE s e0)/\Only L w w':=by
 obtain ⟨⟨vr,ve,h1,h2⟩,h3,h4⟩:=h;have hc2:w.cell? ⟨l,2,none⟩=some (.bool s.done):=by rw [af h1];rfl
 have hz2:=aM h1 2;have hfin:∀b:Bool,b=(s.done || !(e0==0))->IsWl (w.setCell ⟨l,2,none⟩ (.bool b)) A L l d (jE s e0)/\Only L w (w.setCell ⟨l,2,none⟩ (.bool b)):=by
  intro b hb;have ho:Only [l] w (w.setCell ⟨l,2,none⟩ (.bool b)):=(Only.refl _ _).setCell (by simp) _;refine ⟨⟨⟨vr,ve,?_,h2.only_l ho h1 (hA _ h3)⟩,h3,λx hx=>aE (h4 x hx) ho.size⟩,ho.mono (by simpa using h3)⟩;have:=aR h1 2 (.bool b);rw [hb] at this ⊢;exact this
 have HF:=ab hfin;clear h1 h2 h3 h4 hfin;generalize s.done=dn at *;cases dn with
 | true =>
  go_enter Tryz.func88,Tryz.ntmps88
  go_wp2_with fail
  go_ret
  obtain ⟨f1,f2⟩:=HF.out true (by simp);exact ⟨rfl,f1,f2⟩
 | false =>
  by_cases h0:e0=0
  ·have hb:(e0 != 0)=false:=by simpa using h0
   have HE:Hid ((e0==0)=true):=ab (by simpa using h0);clear h0;go_enter Tryz.func88,Tryz.ntmps88
   go_wp2_with fail
   go_ret
   obtain ⟨f1,f2⟩:=HF.out false (by rw [HE.out];rfl);exact ⟨rfl,f1,f2⟩
  ·have hb:(e0 != 0)=true:=by simpa using h0
   have HE:Hid ((e0==0)=false):=ab (by simpa using h0);clear h0;go_enter Tryz.func88,Tryz.ntmps88
   go_wp2_with fail
   go_ret
   obtain ⟨f1,f2⟩:=HF.out true (by rw [HE.out];rfl);exact ⟨rfl,f1,f2⟩
theorem wW (recs:List (List UInt8)) (i:Nat) (hi:i<recs.length):(cD recs).getD i 0=((F.aL (recs.take (i+1))).length:Int):=by
 simp [cD,hi]
theorem xZ (h:IsWl w A L l d s) (n:Nat) (hn:n<=s.recs.length) (hb:s.recs.length<=1000000000):Calls Tryz.prog 114 #[.pointer (some ⟨l,0,none⟩),.int .i64 (n:Int)] w λe w'=>e = .returned (.int .i64 ((F.aL (s.recs.take n)).length:Int))/\w=w':=by
 obtain ⟨⟨vr,ve,h1,_,h2,_⟩,_⟩:=h;by_cases h0:n=0
 ·subst h0;clear h1 h2;go_enter Tryz.func114,Tryz.ntmps114
  go_wp2_with fail
  go_ret
  exact ⟨rfl,rfl⟩
 ·obtain ⟨j,rfl⟩:∃j,n=j+1:=⟨n - 1,by omega⟩
  obtain ⟨ao,c,rfl,hi⟩:=h2.isI;rw [eU] at hi;have hat:=wW s.recs j (by omega);have hc5:w.cell? ⟨l,5,none⟩=some (.slice ao (cD s.recs).length c):=by rw [af h1];rfl
  rw [eU] at hc5;rcases hi.at_ with h3 | ⟨b,off,rfl,h4⟩
  ·omega
  have hce:=h4 j (by omega);rw [hat] at hce;have g0:(((j+1:Nat):Int)==0)=false:=by rw [bX];omega
  have q1:IntKind.i64.wrap (((j+1:Nat):Int) - 1)=(j:Int):=by rw [IntWalk.i64_in _ (by omega)];omega
  have hjl:(j:Int)<(s.recs.length:Int):=by omega
  clear h1 h2 hi h4 hat h0;generalize (F.aL (s.recs.take (j+1))).length=fl at *;generalize s.recs.length=n9 at *;go_enter Tryz.func114,Tryz.ntmps114
  go_wp2_with fail
  go_ret
  exact ⟨rfl,rfl⟩
end
structure WD (w:World) (A D L:List Nat) (l d:Nat) (s:Wl) (k:Dk):Prop where
 wl:IsWl w A L l d s
 dk:IsDk w D d k
 dis:Dis D L
 dA:∀b∈D,b∈A
 lA:∀b∈L,b∈A
 alt:∀b∈A,b<w.heap.size
section
variable {w:World} {A D L:List Nat} {l d:Nat} {s:Wl} {k:Dk}
theorem WD.below {w':World} (h:WD w A D L l d s k) (hb:Below w.heap.size w w'):WD w' A D L l d s k :=
 ⟨h.wl.below hb,h.dk.below hb,h.dis,h.dA,h.lA,λb hb2=>aE (h.alt b hb2) hb.size⟩
theorem WD.drewN (h:WD w A D L l d s k) (q:Nat):WD (w.drewN q) A D L l d s k:=h.below ⟨rfl,rfl,rfl,ah _,λ_ _=>rfl⟩
theorem WD.only_L {w':World} {s':Wl} (h:WD w A D L l d s k) (hw:IsWl w' A L l d s') (ho:Only L w w'):WD w' A D L l d s' k :=
 ⟨hw,h.dk.keep ho h.dis,h.dis,h.dA,h.lA,λb hb=>aE (h.alt b hb) ho.size⟩
theorem WD.only_D {w':World} {k':Dk} (h:WD w A D L l d s k) (hk:IsDk w' D d k') (ho:Only D w w'):WD w' A D L l d s k' :=
 ⟨h.wl.keep ho h.dis.symm h.dA (Ext.refl _ _),hk,h.dis,h.dA,h.lA,λb hb=>aE (h.alt b hb) ho.size⟩
def fQ (s:Wl) (k:Dk):Int×Wl×Dk :=
 if kS s k then (10,jE s 10,k) else match k.file with | none=>(0,s,k) | some (l,_)=>(0,jE s 0,{ k with file:=some (l,l.length)})
theorem rg {s:Wl} {k:Dk} (h:kS s k=false):k.off=false:=by
 unfold kS at h;simp at h;exact h.2.2
set_option maxHeartbeats 1000000 in
theorem u8 (h:WD w A D L l d s k):Calls Tryz.prog 109 #[.pointer (some ⟨l,0,none⟩)] w λe w'=>e = .returned (.int .i64 (fQ s k).1)/\WD w' A D L l d (fQ s k).2.1 (fQ s k).2.2/\Only (D++L) w w':=by
 have H:=ab h;have HOF:=ab (pZ h.wl h.dk);have hc0:w.cell? ⟨l,0,none⟩=some (.pointer (some ⟨d,0,none⟩)):=by
  obtain ⟨⟨vr,ve,h1,_⟩,_⟩:=h.wl;rw [af h1];rfl
 clear h;unfold fQ;cases hoff:kS s k with
 | true =>
  rw [hoff] at HOF;clear hoff;go_enter Tryz.func109,Tryz.ntmps109
  go_wp2_with fail
  refine HOF.out.mono ?_;rintro e w1 ⟨rfl,q,rfl⟩;have H1:=ab (H.out.drewN q);have HO1:Hid (Only (D++L) w (w.drewN q)):=ab ((Only.refl _ _).drewN q);generalize w.drewN q=W at *;go_wp2_with fail
  refine (iO H1.out.wl H1.out.lA 10).mono ?_;rintro e w2 ⟨rfl,hw2,ho2⟩;have H2:=ab (H1.out.only_L hw2 ho2);have HO2:=ab (HO1.out.trans (ho2.mono (λb hb=>by simp [hb])));clear hw2 ho2;go_wp2_with fail
  go_ret
  exact ⟨rfl,H2.out,HO2.out⟩
 | false =>
  rw [hoff] at HOF;have HKO:=ab (rg hoff);clear hoff;cases hf:k.file with
  | none =>
   have HFL:=ab hf;clear hf;go_enter Tryz.func109,Tryz.ntmps109
   go_wp2_with fail
   refine HOF.out.mono ?_;rintro e w1 ⟨rfl,q,rfl⟩;have H1:=ab (H.out.drewN q);have HO1:Hid (Only (D++L) w (w.drewN q)):=ab ((Only.refl _ _).drewN q);have hc1:(w.drewN q).cell? ⟨l,0,none⟩=some (.pointer (some ⟨d,0,none⟩)):=hc0;generalize w.drewN q=W at *;go_wp2_with fail
   refine (AL H1.out.dk HKO.out HFL.out).mono ?_;rintro e w2 ⟨rfl,hb2⟩;have H2:=ab (H1.out.below hb2);have HO2:=ab (HO1.out.trans (Only.ofBelow hb2 (D++L)));clear hb2;go_wp2_with fail
   go_ret
   exact ⟨rfl,H2.out,HO2.out⟩
  | some p =>
   obtain ⟨bl,kk⟩:=p;have HFL:=ab hf;clear hf;go_enter Tryz.func109,Tryz.ntmps109
   go_wp2_with fail
   refine HOF.out.mono ?_;rintro e w1 ⟨rfl,q,rfl⟩;have H1:=ab (H.out.drewN q);have HO1:Hid (Only (D++L) w (w.drewN q)):=ab ((Only.refl _ _).drewN q);have hc1:(w.drewN q).cell? ⟨l,0,none⟩=some (.pointer (some ⟨d,0,none⟩)):=hc0;generalize w.drewN q=W at *;go_wp2_with fail
   refine (yi H1.out.dk HKO.out HFL.out).mono ?_;rintro e w2 ⟨rfl,hd2,ho2⟩;have H2:=ab (H1.out.only_D hd2 ho2);have HO2:=ab (HO1.out.trans (ho2.mono (λb hb=>by simp [hb])));clear hd2 ho2;go_wp2_with fail
   refine (iO H2.out.wl H2.out.lA 0).mono ?_;rintro e w3 ⟨rfl,hw3,ho3⟩;have H3:=ab (H2.out.only_L hw3 ho3);have HO3:=ab (HO2.out.trans (ho3.mono (λb hb=>by simp [hb])));clear hw3 ho3;go_wp2_with fail
   go_ret
   exact ⟨rfl,H3.out,HO3.out⟩
set_option maxHeartbeats 1000000 in
theorem Di (h:WD w A D L l d s k) (hoff:kS s k=false) (n:Nat) (hn:n<s.recs.length) (hb:s.recs.length<=1000000000) (hr:(s.recs.getD n []).length<=1048576) :
  Calls Tryz.prog 57 #[.pointer (some ⟨l,0,none⟩),.int .i64 ((n:Int)+1)] w λe w'=>∃v,e = .returned (.tuple #[v,.int .i64 0])/\OwnB w' w.heap.size 5 v (s.recs.getD n [])/\Below w.heap.size w w':=by
 have H:=ab h;have HOF:=ab (pZ h.wl h.dk);rw [hoff] at HOF;obtain ⟨⟨vr,ve,h1,⟨us,hu,hru,him⟩,_⟩,_⟩:=h.wl;obtain ⟨ao,c,e1,hi,_,_⟩:=him n hn;have hgu:=hru;rcases hru.2 with ⟨_,h0⟩ | ⟨g,cap,cur,rfl,_,hg,hgn,hgm,hgs,hgt⟩
 ·omega
 have hcell:w.cell? ⟨g,n,none⟩=some (.slice ao (s.recs.getD n []).length c):=by
  have:=World.ownsRow.cellAt hgu n (by omega);rw [this,<-e1];have hun:n<us.length:=by omega
  simp [List.getD,hun]
 have hc4:w.cell? ⟨l,4,none⟩=some (.slice (some ⟨g,0,none⟩) s.recs.length cap):=by rw [af h1];rfl
 have hc3:w.cell? ⟨l,3,none⟩=some (.int .i64 1):=by rw [af h1];rfl
 have HNX:=ab (λq=>kV (h.wl.below (w':=w.drewN q) ⟨rfl,rfl,rfl,ah _,λ_ _=>rfl⟩) hb);have HI:=ab hi;have g1:decide ((n:Int)+1<1)=false:=aW (by omega);have g2:decide (1+(s.recs.length:Int)<=(n:Int)+1)=false:=aW (by omega);have q1:IntKind.i64.wrap (n:Int)=(n:Int):=IntWalk.i64_in _ (by omega);have hni:(n:Int)<(s.recs.length:Int):=by omega
 have HFIN:Hid (s.recs.getD n []=s.recs.getD n []):=ab rfl;clear h h1 hu hru him hgu hg hgs hgt hgn hgm e1 hi hoff HFIN;generalize s.recs.getD n []=rl at *;generalize s.recs.length=N at *;go_enter Tryz.func57,Tryz.ntmps57
 go_wp2_with fail
 refine HOF.out.mono ?_;rintro e w1 ⟨rfl,q,rfl⟩;go_wp2_with fail
 refine (HNX.out q).mono ?_;rintro e w2 ⟨rfl,q2,rfl⟩;go_upto_region 5 with (fail)
 have HBW:Hid (Below w.heap.size w (w.drewN (q+q2))):=ab ⟨rfl,rfl,rfl,ah _,λ_ _=>rfl⟩;have hk4:(w.drewN (q+q2)).cell? ⟨l,4,none⟩=some (.slice (some ⟨g,0,none⟩) N cap):=hc4;have hk3:(w.drewN (q+q2)).cell? ⟨l,3,none⟩=some (.int .i64 1):=hc3;have hkg:(w.drewN (q+q2)).cell? ⟨g,n,none⟩=some (.slice ao rl.length c):=hcell;have HI2:Hid (IsB (w.drewN (q+q2)) ao rl.length c rl):=ab (HI.out.below HBW.out);clear hc4 hc3 hcell HI;generalize (w.drewN (q+q2))=W at *;have hr4:∀w',Below W.heap.size W w'->w'.cell? ⟨l,4,none⟩=some (.slice (some ⟨g,0,none⟩) N cap):=λw' hb=>cell_later hb hk4;have hr3:∀w',Below W.heap.size W w'->w'.cell? ⟨l,3,none⟩=some (.int .i64 1):=λw' hb=>cell_later hb hk3;have hrg:∀w',Below W.heap.size W w'->w'.cell? ⟨g,n,none⟩=some (.slice ao rl.length c):=λw' hb=>cell_later hb hkg;have HI:Hid (∀w',Below W.heap.size W w'->IsB w' ao rl.length c rl):=ab λw' hb=>HI2.out.below hb;clear hk4 hk3 hkg;refine wp_region_held_drew (S:=λw'=>Below W.heap.size W w') (by kernel_rfl) (bq W) (λam=>?_);refine aB 0 ?_;refine aB 1 ?_;refine aB 2 ?_;refine aB 3 ?_;refine aB 4 ?_;refine aB 5 ?_;refine aB 6 ?_;refine aB 7 ?_;refine aB 8 ?_;refine aB 9 ?_;refine aB 10 ?_;refine aB 11 ?_;refine cC 12 λK hK=>?_;go_simp
 refine (F.dd ao rl.length c rl _ (HI.out _ (by exact bq W)) (by omega)).mono ?_;rintro e w5 ⟨v5,rfl,ho5,hb5⟩;have HB5:=ab ((bq W).trans hb5);have HO5:=ab ho5;have hh5:Below W.heap.size W w5:=(bq W).trans hb5;clear ho5 hb5;go_wp2_with fail
 refine hK.out _ _ hh5 (λam=>?_);clear hK K;refine bH ?_;clear hh5;refine aB 13 ?_;refine aB 14 ?_;refine fI ?_;go_wp2_with fail
 go_ret2
 exact ⟨v5,rfl,HO5.out.mono (show w.heap.size<=W.drew.heap.size from HBW.out.size),HBW.out.trans (HB5.out.mono HBW.out.size)⟩
end
end Go.Proofs.YtnhefallmioefaaGreat
