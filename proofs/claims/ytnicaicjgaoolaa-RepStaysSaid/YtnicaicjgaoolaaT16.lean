/-
  What the proof of the law leans on: contracts of the program's functions, one behind another. No condition.
-/
import Derived.Test.YtnicaicjgaoolaaT15
import Derived.Test.YtnicaicjgaoolaaT6
import Derived.Test.YtnicaicjgaoolaaT11
import Derived.Test.YtnicaicjgaoolaaT7
import Derived.Test.YtnicaicjgaoolaaT5
set_option linter.unusedVariables false
set_option linter.unusedSimpArgs false
namespace Go.Proofs.Ytnicaicjgaoolaa
open Go.RowKit Go.ChangeMaps Go.WideMaps Go.Maps
set_option maxRecDepth 20000
/-- a note on the disk -/
inductive Note where
 | t (term who:Int)
 | e (place:Nat) (x:Ent)
def Note.bytes:Note→List UInt8
 | .t a b=>noteT a b
 | .e p x=>noteE p x
def noteA (s:Rp):Note→Rp
 | .t a b=>{ s with term:=a,choice:=b }
 | .e p x=>{ s with log:=s.log.take p++[x]}
def noteOk (s:Rp):Note→Prop
 | .t a b=>s.term≤a∧a≤1099511627776 ∧ -1≤b∧b<s.n
 | .e p x=>p≤s.log.length∧1≤x.term∧x.term≤s.term∧x.bs.length≤8000
def replay (s:Rp) (l:List Note):Rp:=l.foldl noteA s
def replayOk:Rp→List Note→Prop
 | _,[]=>True
 | s,a::l=>noteOk s a∧replayOk (noteA s a) l
theorem replay_append (s:Rp) (l m:List Note):replay s (l++m)=replay (replay s l) m:=List.foldl_append
theorem replayOk_append (s:Rp) (l m:List Note):replayOk s (l++m)↔replayOk s l∧replayOk (replay s l) m:=by
 induction l generalizing s with
 | nil=>simp [replayOk,replay]
 | cons a l ih =>
  have e:=ih (noteA s a)
  simp only [List.cons_append,replayOk,replay,List.foldl_cons] at e ⊢
  rw [e,and_assoc]
theorem noteA_same (s:Rp) (a:Note):∃t c g,noteA s a={ s with term:=t,choice:=c,log:=g }:=by
 cases a with
 | t a b=>exact ⟨a,b,s.log,rfl⟩
 | e p x=>exact ⟨s.term,s.choice,s.log.take p++[x],rfl⟩
theorem replay_same (s:Rp) (l:List Note):∃t c g,replay s l={ s with term:=t,choice:=c,log:=g }:=by
 induction l generalizing s with
 | nil=>exact ⟨s.term,s.choice,s.log,rfl⟩
 | cons a l ih =>
  obtain ⟨t,c,g,h⟩:=noteA_same s a
  obtain ⟨t2,c2,g2,h2⟩:=ih (noteA s a)
  refine ⟨t2,c2,g2,?_⟩
  show replay (noteA s a) l=_
  rw [h2,h]
theorem replay_len (s:Rp) (l:List Note):(replay s l).log.length≤s.log.length+l.length:=by
 induction l generalizing s with
 | nil=>simp [replay]
 | cons a l ih =>
  have h:=ih (noteA s a)
  have h2:(noteA s a).log.length≤s.log.length+1:=by
   cases a with
   | t a b=>simp [noteA]
   | e p x=>simp [noteA];omega
  show (replay (noteA s a) l).log.length≤_
  simp only [List.length_cons]
  omega
theorem replay_step (s:Rp) (l:List Note) (j:Nat) (h:j<l.length):replay s (l.take (j+1))=noteA (replay s (l.take j)) l[j]:=by
 rw [←List.take_append_getElem h,replay_append]
 rfl
theorem replayOk_at (s:Rp) (l:List Note) (hk:replayOk s l) (j:Nat) (h:j<l.length):noteOk (replay s (l.take j)) l[j]:=by
 have e:l=l.take j++(l[j]::l.drop (j+1)):=by
  rw [←List.drop_eq_getElem_cons h,List.take_append_drop]
 rw [e,replayOk_append] at hk
 have h2:=hk.2.1
 simpa using h2
theorem replay_terms (s:Rp) (l:List Note) (hk:replayOk s l):s.term≤(replay s l).term∧(s.term≤1099511627776→(replay s l).term≤1099511627776):=by
 induction l generalizing s with
 | nil=>exact ⟨Int.le_refl _,id⟩
 | cons a l ih =>
  obtain ⟨h1,h2⟩:=hk
  obtain ⟨h3,h4⟩:=ih _ h2
  show s.term≤(replay (noteA s a) l).term∧(_→(replay (noteA s a) l).term≤_)
  cases a with
  | t a b=>exact ⟨Int.le_trans h1.1 h3,fun _=>h4 h1.2.1⟩
  | e p x=>exact ⟨h3,h4⟩
theorem replayOk_take (s:Rp) (l:List Note) (hk:replayOk s l) (j:Nat):replayOk s (l.take j):=by
 rw [←List.take_append_drop j l,replayOk_append] at hk
 exact hk.1
section
variable {w w':World} {A A' X X':List Nat} {r d l:Nat} {s s':Rp} {k k':Dk}
theorem note_any {w0:World} {T:Nat→Prop} (h:Nd w0 A X r d l s k) (hb:Below w0.heap.size w0 w) (a:Nat) (ha:w0.heap.size≤a) (n:Note) (hr:IsR w a T n.bytes false) (hok:noteOk s n) (h0:0≤s.term) (hn5:s.n≤5) (hl:s.log.length≤1000000) (hM:s.term≤1099511627776) :
  Calls Try.prog 63 #[.pointer (some ⟨r,0,none⟩),.pointer (some ⟨a,0,none⟩)] w fun e w'=>e = .returned (.bool true)∧NdP w0 w' A X r d l (noteA s n) k:=by
 cases n with
 | t x y=>exact noteT_any h hb a ha x y hr hok.1 (Int.le_trans h0 hok.1) hok.2.1 hok.2.2.1 hok.2.2.2 hn5
 | e p x=>exact noteE_any h hb a ha p x hr hok.1 hok.2.1 hok.2.2.1 hok.2.2.2 hl hM
set_option maxHeartbeats 4000000 in
theorem recall_any (h:Nd w A X r d l s k) (ns:List Note) (hrec:s.wl.recs=ns.map Note.bytes) (hok:replayOk s ns) (h0:0≤s.term) (hM:s.term≤1099511627776) (hn5:s.n≤5) (hlg:s.log=[]) (hb:ns.length≤100000) (hrl:∀x∈s.wl.recs,x.length≤20000) (hoff:offW s.wl k=false) :
  Calls Try.prog 40 #[.pointer (some ⟨r,0,none⟩)] w fun e w'=>e = .returned (.bool true)∧NdP w w' A X r d l (replay s ns) k:=by
 have H:=Lib.hid h
 have hrn:s.wl.recs.length=ns.length:=by rw [hrec,List.length_map]
 have HCELL:Hid (∀W A2 X2 s2,Nd W A2 X2 r d l s2 k→s2.wl=s.wl→W.cell? ⟨r,3,none⟩=some (.pointer (some ⟨l,0,none⟩))∧∃A3 D3 L3,WD W A3 D3 L3 l d s.wl k):=Lib.hid (fun W A2 X2 s2 h2 e=>by
  obtain ⟨D,L,R,vl,gv,gn,gm,gh,h2,_⟩:=h2
  have hwd:=h2.wd
  rw [e] at hwd
  exact ⟨by rw [cell_heap h2.cell];rfl,_,_,_,hwd⟩)
 have HRW:Hid (∀j,(replay s (ns.take j)).wl=s.wl∧(replay s (ns.take j)).n=s.n):=Lib.hid (fun j=>by
  obtain ⟨t,c,g,e⟩:=replay_same s (ns.take j)
  rw [e];exact ⟨rfl,rfl⟩)
 have HST:=Lib.hid (fun j (hj:j<ns.length)=>replay_step s ns j hj)
 have HOK:=Lib.hid (fun j (hj:j<ns.length)=>replayOk_at s ns hok j hj)
 have HTM:=Lib.hid (fun j=>replay_terms s (ns.take j) (replayOk_take s ns hok j))
 have HLN:Hid (∀j,(replay s (ns.take j)).log.length≤1000000):=Lib.hid (fun j=>by
  have:=replay_len s (ns.take j)
  rw [hlg,List.length_take,List.length_nil] at this
  omega)
 have HRC:Hid (∀j (hj:j<ns.length),s.wl.recs.getD j []=ns[j].bytes):=Lib.hid (fun j hj=>by
  rw [hrec];simp [List.getD,hj])
 have HAL:Hid (replay s ns=replay s (ns.take ns.length)):=Lib.hid (by rw [List.take_length])
 have HRL:Hid (∀j,(s.wl.recs.getD j []).length≤20000):=Lib.hid (fun j=>by
  by_cases hj:j<s.wl.recs.length
  ·have e:s.wl.recs.getD j []=s.wl.recs[j]:=by simp [List.getD,hj]
   rw [e];exact hrl _ (List.getElem_mem _)
  ·rw [List.getD_eq_getElem?_getD,List.getElem?_eq_none (by omega)];simp)
 have HOFF:=Lib.hid hoff
 obtain ⟨hc3,A3,D3,L3,hwd⟩:=HCELL.out w A X s h rfl
 have HFI:=Lib.hid (first_any hwd.wl)
 clear hwd hrec hok hrl hoff hlg h
 go_enter Try.func40,Try.ntmps40
 go_wp2_with fail
 refine HFI.out.mono ?_
 rintro e w1 ⟨rfl,rfl⟩
 go_wp2_with fail
 go_loopw [3] (fun i wr=>∃j:Nat,j≤ns.length∧i = .int .i64 ((j:Int)+1)∧NdP w wr A X r d l (replay s (ns.take j)) k) (fun i _=>ns.length+1 - (intOf i).toNat)
 case atStart=>exact ⟨0,Nat.zero_le _,by simp,H.out.ndp (Mv.refl _ _ _)⟩
 case round =>
  obtain ⟨j,hj,rfl,A1,X1,h1,m1⟩:=hrel
  obtain ⟨hk3,A4,D4,L4,hwd⟩:=HCELL.out wr A1 X1 _ h1 (HRW.out j).1
  have H1:=Lib.hid h1
  have M1:=Lib.hid m1
  have HWD:=Lib.hid hwd
  clear h1 m1 hwd hc3
  have hrb:s.wl.recs.length≤1000000000:=by omega
  have HNX:=Lib.hid (next_any HWD.out.wl hrb)
  rw [hrn] at HNX
  by_cases hlt:j<ns.length
  ·have q1:(j:Int)+1<1+(ns.length:Int):=by omega
   have q6:IntKind.i64.wrap ((j:Int)+1+1)=(j:Int)+1+1:=IntWalk.i64_in _ (by omega)
   go_wp2_with fail
   refine HNX.out.mono ?_
   rintro e w2 ⟨rfl,q,rfl⟩
   have H2:=Lib.hid (H1.out.below (below_drewN wr q))
   have M2:=Lib.hid (M1.out.trans (Mv.below (A:=A1) (X:=X1) (below_drewN wr q)))
   have HWD2:=Lib.hid (HWD.out.below (below_drewN wr q))
   have hk3:(wr.drewN q).cell? ⟨r,3,none⟩=some (.pointer (some ⟨l,0,none⟩)):=hk3
   generalize wr.drewN q=W2 at *
   go_wp2_with fail
   refine (at_ok HWD2.out HOFF.out j (by omega) hrb (by have:=HRL.out j;omega)).mono ?_
   rintro e W3 ⟨v,rfl,ho3,hb3⟩
   have HB3:=Lib.hid hb3
   obtain ⟨ao,c,ev,hi,_⟩:=own_more ho3
   rw [HRC.out j hlt] at hi ev
   subst ev
   have HI3:=Lib.hid hi
   have hlen:(ns[j].bytes).length≤20000:=by rw [←HRC.out j hlt];exact HRL.out j
   clear ho3 hb3 hi
   go_wp2_with fail
   refine (read_any ao _ c _ W3 HI3.out (by omega)).mono ?_
   rintro e W4 ⟨a,rfl,hr4,ha4,ha5,hb4⟩
   have HR4:=Lib.hid hr4
   have HB4:=Lib.hid hb4
   have hge:W3.heap.size≤a:=ha4
   clear hr4 hb4 ha4 ha5
   go_wp2_with fail
   refine (note_any (H2.out.below HB3.out) HB4.out a hge ns[j] HR4.out (HOK.out j hlt) (Int.le_trans h0 (HTM.out j).1) (by rw [(HRW.out j).2];exact hn5) (HLN.out j) ((HTM.out j).2 hM)).mono ?_
   rintro e W5 ⟨rfl,hn5'⟩
   have HN5:=Lib.hid (NdP.trans (M2.out.trans (Mv.below HB3.out)) hn5')
   rw [←HST.out j hlt] at HN5
   clear hn5'
   go_wp2_with fail
   go_roundw
   case rel=>exact ⟨j+1,by omega,by simp,HN5.out⟩
   case measure=>simp [intOf];omega
  ·obtain rfl:j=ns.length:=by omega
   have q1:¬(ns.length:Int)+1<1+(ns.length:Int):=by omega
   go_wp2_with fail
   refine HNX.out.mono ?_
   rintro e w2 ⟨rfl,q,rfl⟩
   have HN2:=Lib.hid (NdP.trans M1.out ((H1.out.below (below_drewN wr q)).ndp (Mv.below (below_drewN wr q))))
   generalize wr.drewN q=W2 at *
   go_wp2_with fail
   go_ret
   rw [HAL.out]
   exact ⟨rfl,HN2.out⟩
end
end Go.Proofs.Ytnicaicjgaoolaa
namespace Go.Proofs.Ytnicaicjgaoolaa
open Go.RowKit Go.ChangeMaps Go.WideMaps Go.Maps
set_option maxRecDepth 20000
section
variable {w:World} {D:List Nat} {d:Nat} {k:Dk}
theorem base_on (h:IsDk w D d k) (ho:k.off=false):Calls Try.prog 55 #[.pointer (some ⟨d,0,none⟩)] w fun e w'=>e = .returned (.tuple #[.int .i64 1,.int .i64 0])∧Below w.heap.size w w':=by
 have HR:=Lib.hid (read_no h ho baseA good_base (.inr (by decide)))
 clear h
 go_enter Try.func55,Try.ntmps55
 go_wp2_with fail
 refine HR.out.mono ?_
 rintro e w1 ⟨rfl,hb⟩
 have HB:=Lib.hid hb
 clear hb
 go_wp2_with fail
 go_ret2
 exact ⟨rfl,HB.out⟩
theorem wread_none (h:IsDk w D d k) (ho:k.off=false) (hf:k.file=none):Calls Try.prog 56 #[.pointer (some ⟨d,0,none⟩),.string logA] w fun e w'=>e = .returned (.tuple #[.slice none 0 0,.int .i64 0])∧Below w.heap.size w w':=by
 have HR:=Lib.hid (read_no h ho logA good_log (.inl hf))
 clear h hf
 go_enter Try.func56,Try.ntmps56
 go_wp2_with fail
 refine HR.out.mono ?_
 rintro e w1 ⟨rfl,hb⟩
 have HB:=Lib.hid hb
 clear hb
 go_wp2_with fail
 go_ret2
 exact ⟨rfl,HB.out⟩
theorem wread_some (h:IsDk w D d k) (ho:k.off=false) {l:List UInt8} {sf:Nat} (hf:k.file=some (l,sf)) (hl:l.length≤1048576):Calls Try.prog 56 #[.pointer (some ⟨d,0,none⟩),.string logA] w fun e w'=>∃v,e = .returned (.tuple #[v,.int .i64 0])∧OwnB w' w.heap.size 5 v l∧Below w.heap.size w w':=by
 have HR:=Lib.hid (read_yes h ho hf hl)
 clear h hf
 go_enter Try.func56,Try.ntmps56
 go_wp2_with fail
 refine HR.out.mono ?_
 rintro e w1 ⟨v,rfl,hv,hb⟩
 have HB:=Lib.hid hb
 have HV:=Lib.hid hv
 clear hb hv
 go_wp2_with fail
 go_ret2
 exact ⟨v,rfl,HV.out,HB.out⟩
theorem size_any (ao:Option Addr) (n c:Nat) (rec:List UInt8) (h:IsB w ao n c rec) (hn:n≤20000):Calls Try.prog 59 #[.slice ao n c] w fun e w'=>e = .returned (.int .i64 ((12+n:Nat):Int))∧Below w.heap.size w w':=by
 have HI:=Lib.hid h
 have HFR:Hid ((F.frameF rec).length=12+n):=Lib.hid (by rw [F.frameF_len,h.len])
 clear h
 go_enter Try.func59,Try.ntmps59
 go_wp2_with fail
 refine (F.put_ok none 0 0 [] ao n c rec w (isB_nil w) HI.out (by omega) hn).mono ?_
 rintro e w2 ⟨v2,rfl,ho2,hb2⟩
 rw [List.nil_append] at ho2
 obtain ⟨a2,c2,e2,hi2⟩:=ho2.isB
 rw [HFR.out] at e2
 subst e2
 have HB:=Lib.hid hb2
 clear ho2 hi2 hb2
 go_wp2_with fail
 go_ret
 exact ⟨rfl,HB.out⟩
end
end Go.Proofs.Ytnicaicjgaoolaa
namespace Go.Proofs.Ytnicaicjgaoolaa
open Go.RowKit Go.ChangeMaps Go.WideMaps Go.Maps
set_option maxRecDepth 20000
theorem own_caps {w:World} {base:Nat} {e:TypeId} {v:Value} {l:List UInt8} (h:OwnB w base e v l):∃ao c,v = .slice ao l.length c∧IsB w ao l.length c l∧l.length≤c∧c≤9223372036854775807:=by
 obtain ⟨ao,c,rfl,h1,h2,_⟩:=own_more h
 refine ⟨ao,c,rfl,h1,h2,?_⟩
 rcases h.2 with ⟨h2,h3⟩ | ⟨g,cap,cur,hv,hg,hh,hn,hm,hs,ht⟩
 ·simp only [Value.slice.injEq] at h2
  omega
 ·cases hv
  unfold maxLen at hm
  omega
section
variable {w:World} {D:List Nat} {d:Nat} {k:Dk}
end
end Go.Proofs.Ytnicaicjgaoolaa
namespace Go.Proofs.Ytnicaicjgaoolaa
open Go.RowKit Go.ChangeMaps Go.WideMaps Go.Maps
set_option maxRecDepth 20000
structure OpenP (w w':World) (D:List Nat) (d:Nat) (e:Ending) (recs:List (List UInt8)) (k:Dk):Prop where
 ex:∃l L,e = .returned (.tuple #[.pointer (some ⟨l,0,none⟩),.int .i64 0])∧(∀A:List Nat,(∀b∈A,b<w.heap.size)→WD w' (A++(D++L)) D L l d ⟨k.lives,false,recs⟩ k)∧(∀b∈L,w.heap.size≤b)∧Below w.heap.size w w'
section
variable {w:World} {D:List Nat} {d:Nat} {k:Dk}
theorem open_whole (h:IsDk w D d k) (ho:k.off=false) {bl:List UInt8} {sf:Nat} (hf:k.file=some (bl,sf)) (hl:bl.length≤1048576) (hk:¬(F.scanAll bl).2.2=2) (hu:(F.scanAll bl).2.1=bl.length) (hrs:∀r∈(F.scanAll bl).1,r.length≤20000) (hfl:(F.frames (F.scanAll bl).1).length≤1048576) (hmany:(F.scanAll bl).1.length≤1000000) :
  Calls Try.prog 39 #[.pointer (some ⟨d,0,none⟩)] w fun e w'=>OpenP w w' D d e (F.scanAll bl).1 k:=by
 have HR:=Lib.hid (base_on h ho)
 have HD:=Lib.hid h
 have HO:=Lib.hid ho
 have HF:=Lib.hid hf
 generalize hq:F.scanAll bl=q at hk hu hrs hfl hmany ⊢
 have HQ:=Lib.hid hq
 obtain ⟨recs,used,how⟩:=q
 simp only at hk hu hrs hfl hmany
 subst hu
 have hk2:¬(how:Int)=2:=by omega
 clear h ho hf hq
 go_enter Try.func39,Try.ntmps39
 go_wp2_with fail
 refine HR.out.mono ?_
 rintro e w1 ⟨rfl,hb⟩
 have HB:=Lib.hid hb
 clear hb
 go_wp2_with fail
 refine (wread_some (HD.out.below HB.out) HO.out HF.out hl).mono ?_
 rintro e w2 ⟨v,rfl,hv,hb⟩
 have HB2:=Lib.hid (HB.out.trans (hb.mono HB.out.size))
 obtain ⟨ao,c,rfl,hi,hnc,hc9⟩:=own_caps hv
 have HI:=Lib.hid hi
 clear hb hv hi
 go_wp2_with fail
 refine (F.scan2_any ao bl.length c bl w2 HI.out (by omega) hnc hc9).mono ?_
 rintro e w3 ⟨v3,hr,ho3,hb3⟩
 rw [HQ.out] at hr ho3
 obtain rfl:=hr
 have HB3:=Lib.hid (HB2.out.trans (hb3.mono HB2.out.size))
 have HO3:=Lib.hid (ho3.mono HB2.out.size)
 clear hb3 ho3
 obtain ⟨ao3,c3,rfl,hc3,hc39⟩:=HO3.out.shape
 go_wp2_with fail
 refine (lives_any (HD.out.below HB3.out)).mono ?_
 rintro e w4 ⟨rfl,rfl⟩
 go_wp2_with fail
 go_loopw [12,58] (fun a i wr=>∃(j:Nat) (ve:Value),j≤recs.length∧i = .int .i64 (j:Int)∧a = .int .i64 ((F.frames (recs.take j)).length:Int)∧wr.heap[w3.heap.size]? = some (.cells #[.pointer (some ⟨d,0,none⟩),.int .i64 k.lives,.bool false,.int .i64 1,.slice ao3 recs.length c3,ve] 99 (0,0))∧OwnI wr 0 3 ve (endsOf (recs.take j))∧(∀b,ve.ownBlock=some b→w3.heap.size<b)∧OwnL wr w.heap.size (.slice ao3 recs.length c3) recs∧Below w.heap.size w wr∧Below w3.heap.size w3 wr) (fun _ i _=>recs.length - (intOf i).toNat)
 case atStart =>
  refine ⟨0,.slice none 0 0,by omega,rfl,by simp [F.frames],?_,OwnI.nil _ _ _,(fun b hb=>by cases hb),?_,?_,?_⟩
  ·exact heap_new _ _
  ·exact HO3.out.below ((Below.refl _ _).alloc (Nat.le_refl _) _)
  ·exact HB3.out.alloc HB3.out.size _
  ·exact (Below.refl _ _).alloc (Nat.le_refl _) _
 case round =>
  obtain ⟨j,ve,hj,rfl,rfl,hcell,hve,hvb,hrl,hbl,hb3⟩:=hrel
  have HC:=Lib.hid hcell
  have HV:=Lib.hid hve
  have HVB:=Lib.hid hvb
  have HL:=Lib.hid hrl
  have HBL:=Lib.hid hbl
  have HBL3:=Lib.hid hb3
  clear hcell hve hvb hrl hbl hb3
  by_cases hlt:j<recs.length
  ·have hrj:(recs.getD j []).length≤20000:=by
    have e:recs.getD j []=recs[j]:=by simp [List.getD,hlt]
    rw [e]
    exact hrs _ (List.getElem_mem _)
   have hfj:(F.frames (recs.take j)).length+(12+(recs.getD j []).length)=(F.frames (recs.take (j+1))).length:=by
    have e:recs.getD j []=recs[j]:=by simp [List.getD,hlt]
    rw [e,←List.take_append_getElem hlt,frames_more]
   have hfj2:(F.frames (recs.take (j+1))).length≤1048576:=by
    have e:F.frames recs=F.frames (recs.take (j+1))++F.frames (recs.drop (j+1)):=by
     unfold F.frames
     rw [←List.flatMap_append,List.take_append_drop]
    rw [e,List.length_append] at hfl
    omega
   obtain ⟨us,hu,hru,hone,him⟩:=HL.out
   obtain ⟨ao,c,e1,hi,_,_⟩:=own_caps (him j hlt)
   have hgu:=hru
   rcases hru.2 with ⟨_,h0⟩ | ⟨g,cap,cur,e0,_,hg,hgn,hgm,hgs,hgt⟩
   ·omega
   cases e0
   have hcell:wr.cell? ⟨g,j,none⟩=some (.slice ao (recs.getD j []).length c):=by
    have:=World.ownsRow.cellAt hgu j (by omega)
    rw [this,←e1]
    have hun:j<us.length:=by omega
    simp [List.getD,hun]
   have HI:=Lib.hid hi
   clear hu hru hone him hgu hg hgs hgt hgn hgm e1 hi
   have HRJ:=Lib.hid hrj
   have HFJ:=Lib.hid hfj
   clear hrj hfj
   generalize hrl:recs.getD j []=rl at *
   have HRL:=Lib.hid hrl
   clear hrl
   go_wp2_with fail
   refine (size_any ao rl.length c rl HI.out HRJ.out).mono ?_
   rintro e wr2 ⟨rfl,hb⟩
   have HBS:=Lib.hid hb
   clear hb hcell
   have hsum:wrap64 ((F.frames (recs.take j)).length+(12+(rl.length:Int)))=((F.frames (recs.take (j+1))).length:Int):=by
    have:=HFJ.out
    rw [←this]
    unfold wrap64
    omega
   have hfj3:Hid ((F.frames (recs.take (j+1))).length≤1048576):=Lib.hid hfj2
   have HSUM:=Lib.hid (show wrap64 ((F.frames (recs.take j)).length+(12+(rl.length:Int)))=((F.frames (recs.take (j+1))).length:Int) from hsum)
   have hc2:wr2.heap[w3.heap.size]? = some (.cells #[.pointer (some ⟨d,0,none⟩),.int .i64 k.lives,.bool false,.int .i64 1,.slice (some ⟨g,0,none⟩) recs.length c3,ve] 99 (0,0)):=(Only.ofBelow HBS.out []).keeps HC.out (by simp)
   have HC2:=Lib.hid hc2
   clear hc2 hfj2
   generalize hz:(F.frames (recs.take (j+1))).length=z at *
   have HZ:=Lib.hid hz
   clear hz
   have heln:(endsOf (recs.take j)).length=j:=by rw [endsOf_len,List.length_take];omega
   have HELN:=Lib.hid heln
   have hv2:OwnI wr2 0 3 ve (endsOf (recs.take j)):=rows_below HV.out HBS.out
   obtain ⟨ae,ce,e5,_⟩:=hv2.isI
   rw [heln] at e5
   subst e5
   have HV2:=Lib.hid hv2
   have HLEN:Hid ((endsOf (recs.take j)).length+1≤17592186044416):=Lib.hid (by rw [heln];omega)
   clear heln hv2
   have hc5:wr2.cell? ⟨w3.heap.size,5,none⟩=some (.slice ae j ce):=(cell_heap HC2.out 5).trans rfl
   go_wp2_with (at_builtin;refine wpList_append_if rfl (.tmp 70) (.tmp 72) 27 rfl 3 Try.underlying27 F.info3 (.slice ae j ce) (endsOf (recs.take j)) rfl (OwnI.alloc HV2.out _) (some ⟨wr2.heap.size,0,none⟩) 1 1 [(z:Int)] rfl (isI_cell1 (heap_new wr2 _)) HLEN.out ?_)
   intro ve5 w5 ho5 hon5 hfr5
   have h5:=hon5.keeps (heap_old HC2.out (.cells #[.int .i64 (z:Int)] 3)) (ownI_ne (OwnI.alloc HV2.out (.cells #[.int .i64 (z:Int)] 3)) (heap_old HC2.out (.cells #[.int .i64 (z:Int)] 3)) (by simp))
   obtain ⟨a5,c5,e5,_⟩:=ho5.isI
   rw [List.length_append,HELN.out] at e5
   simp only [List.length_cons,List.length_nil,Nat.zero_add] at e5
   subst e5
   have hc6:w5.cell? ⟨w3.heap.size,5,none⟩=some (.slice ae j ce):=(cell_heap h5 5).trans rfl
   have hz:=free_heap h5 5
   have HL5:=Lib.hid h5;have HO5:=Lib.hid ho5;have HON5:=Lib.hid hon5;have HFR5:=Lib.hid hfr5
   clear h5 ho5 hon5 hfr5
   go_wp2_with fail
   case roundEnd =>
    refine ⟨?_,?_⟩
    rotate_left
    ·simp [intOf];omega
    have hlw:w3.heap.size<wr.heap.size:=lt_of_heap HC.out
    have hgt5:∀b,(Value.slice a5 (j+1) c5).ownBlock=some b→w3.heap.size<b:=fun b hb=>by
     rcases HFR5.out b hb with h1 | h1
     ·exact HVB.out b h1
     ·have:=HBS.out.size
      have h2:(wr2.alloc (.cells #[.int .i64 (z:Int)] 3)).heap.size=wr2.heap.size+1:=by simp
      omega
    have hon:Only (w3.heap.size::(Value.slice ae j ce).ownBlock.toList) wr (w5.setCell ⟨w3.heap.size,5,none⟩ (.slice a5 (j+1) c5)):=(((Only.ofBelow HBS.out _).trans (Only.ofBelow ((Below.refl _ _).alloc (Nat.le_refl _) _) _)).trans (HON5.out.mono (fun b hb=>List.mem_cons_of_mem _ hb))).setCell (by simp) _
    have hge:∀b∈(w3.heap.size::(Value.slice ae j ce).ownBlock.toList),w3.heap.size≤b:=fun b hb=>by
     rcases List.mem_cons.1 hb with rfl | hb
     ·exact Nat.le_refl _
     ·exact Nat.le_of_lt (HVB.out b (by simpa using hb))
    have hew:endsOf (recs.take (j+1))=endsOf (recs.take j)++[(z:Int)]:=by
     have e:recs.take (j+1)=recs.take j++[recs[j]]:=(List.take_append_getElem hlt).symm
     have hz2:=HZ.out
     rw [e] at hz2
     rw [e,endsOf_more,hz2]
    refine ⟨j+1,.slice a5 (j+1) c5,by omega,by simp,by rw [HZ.out],heap_set HL5.out 5 _,?_,hgt5,?_,?_,?_⟩
    ·rw [hew]
     exact rows_only0 HO5.out (S:=[w3.heap.size]) ((Only.ofBelow (Below.refl _ _) _).setCell (by simp) _) (fun b hb=>by have:=hgt5 b hb;simp;omega)
    ·refine HL.out.only hon (fun b hb cur=>?_)
     rcases List.mem_cons.1 hb with rfl | hb
     ·rw [HC.out];simp
     ·rw [rows_at HV.out (by simpa using hb)];simp
    ·exact HBL.out.trans (hon.below HBL.out.size (fun b hb=>Nat.le_trans HB3.out.size (hge b hb)))
    ·exact HBL3.out.trans (hon.below (Nat.le_of_lt hlw) hge)
  ·have hj2:j=recs.length:=by omega
   subst hj2
   go_wp2_with fail
   go_ret2
   rw [List.take_length] at HV
   have hlw:w3.heap.size<wr.heap.size:=lt_of_heap HC.out
   obtain ⟨us,hu,hru,hone,him⟩:=HL.out
   have hvr:=fun b hb=>World.ownsRow.lt hru b hb
   have hve:=fun b hb=>HV.out.lt b hb
   have hge:∀b∈(w3.heap.size::((Value.slice ao3 recs.length c3).ownBlock.toList++ve.ownBlock.toList)),w.heap.size≤b∧b<wr.heap.size∧∃cur t,t≠5∧wr.heap[b]? = some (.cells cur t (0,0)):=fun b hb=>by
    rcases List.mem_cons.1 hb with rfl | hb
    ·exact ⟨HB3.out.size,hlw,_,99,by simp,HC.out⟩
    ·rcases List.mem_append.1 hb with hb | hb
     ·have hb2:(Value.slice ao3 recs.length c3).ownBlock=some b:=by simpa using hb
      exact ⟨(hvr b hb2).1,(hvr b hb2).2,_,29,by simp,rows_at (rows_mono hru (Nat.zero_le _)) hb2⟩
     ·have hb2:ve.ownBlock=some b:=by simpa using hb
      exact ⟨Nat.le_trans HB3.out.size (Nat.le_of_lt (HVB.out b hb2)),(hve b hb2).2,_,3,by simp,rows_at HV.out hb2⟩
   have hDlt:∀b∈D,b<w.heap.size:=HD.out.lt
   refine ⟨⟨w3.heap.size,_,rfl,fun A hA=>⟨⟨⟨_,_,HC.out,⟨⟨us,hu,rows_mono hru (Nat.zero_le _),fun i hi=>?_⟩,HV.out,fun b hb=>?_,fun b hb=>?_⟩⟩,List.mem_cons_self,fun b hb=>(hge b hb).2.1⟩,HD.out.below HBL.out,fun b hb hb2=>?_,fun b hb=>List.mem_append_right _ (List.mem_append_left _ hb),fun b hb=>List.mem_append_right _ (List.mem_append_right _ hb),fun b hb=>?_⟩,fun b hb=>(hge b hb).1,HBL.out⟩⟩
   ·obtain ⟨ao4,c4,e4,h1,h2,h3⟩:=own_more (him i hi)
    refine ⟨ao4,c4,e4,h1,h2,fun p hp=>⟨fun hm=>?_,(h3 p hp).2⟩⟩
    rcases List.mem_append.1 hm with hm | hm
    ·have:=hA _ hm;have:=(h3 p hp).1;omega
    rcases List.mem_append.1 hm with hm | hm
    ·have:=hDlt _ hm;have:=(h3 p hp).1;omega
    ·obtain ⟨_,_,cur,t,ht,hc⟩:=hge _ hm
     have hb4:(us.getD i undef).ownBlock=some p.block:=by rw [e4,hp];rfl
     have h6:=rows_at (rows_mono (him i hi) (Nat.zero_le _)) hb4
     rw [hc] at h6
     simp at h6
     exact ht h6
   ·exact List.mem_cons_of_mem _ (List.mem_append_left _ (by simp [hb]))
   ·exact List.mem_cons_of_mem _ (List.mem_append_right _ (by simp [hb]))
   ·have:=hDlt _ hb;have:=(hge _ hb2).1;omega
   ·rcases List.mem_append.1 hb with hb | hb
    ·exact Nat.lt_of_lt_of_le (hA _ hb) HBL.out.size
    rcases List.mem_append.1 hb with hb | hb
    ·exact Nat.lt_of_lt_of_le (hDlt _ hb) HBL.out.size
    ·exact (hge _ hb).2.1
end
end Go.Proofs.Ytnicaicjgaoolaa
namespace Go.Proofs.Ytnicaicjgaoolaa
open Go.RowKit Go.ChangeMaps Go.WideMaps Go.Maps
set_option maxRecDepth 20000
section
variable {w:World} {D:List Nat} {d:Nat} {k:Dk}
theorem open_none (h:IsDk w D d k) (ho:k.off=false) (hf:k.file=none) :
  Calls Try.prog 39 #[.pointer (some ⟨d,0,none⟩)] w fun e w'=>OpenP w w' D d e [] k:=by
 have hs:F.scanAll []=([],0,0):=by rfl
 have hrs:∀r∈([]:List (List UInt8)),r.length≤20000:=fun r hr=>by cases hr
 have hfl:(F.frames []).length≤1048576:=by simp [F.frames]
 have hmany:([]:List (List UInt8)).length≤1000000:=by simp
 have HR:=Lib.hid (base_on h ho)
 have HD:=Lib.hid h
 have HO:=Lib.hid ho
 have HF:=Lib.hid hf
 have HQ:=Lib.hid hs
 clear h ho hf hs
 have hcl:([]:List UInt8).length=0:=rfl
 generalize hrecs:([]:List (List UInt8))=recs at *
 go_enter Try.func39,Try.ntmps39
 go_wp2_with fail
 refine HR.out.mono ?_
 rintro e w1 ⟨rfl,hb⟩
 have HB:=Lib.hid hb
 clear hb
 go_wp2_with fail
 refine (wread_none (HD.out.below HB.out) HO.out HF.out).mono ?_
 rintro e w2 ⟨rfl,hb⟩
 have HB2:=Lib.hid (HB.out.trans (hb.mono HB.out.size))
 clear hb
 go_wp2_with fail
 refine (F.scan2_any none 0 0 [] w2 (isB_nil w2) (by omega) (by omega) (by omega)).mono ?_
 rintro e w3 ⟨v3,hr,ho3,hb3⟩
 rw [HQ.out] at hr ho3
 obtain rfl:=hr
 have HB3:=Lib.hid (HB2.out.trans (hb3.mono HB2.out.size))
 have HO3:=Lib.hid (ho3.mono HB2.out.size)
 clear hb3 ho3
 obtain ⟨ao3,c3,rfl,hc3,hc39⟩:=HO3.out.shape
 go_wp2_with fail
 refine (lives_any (HD.out.below HB3.out)).mono ?_
 rintro e w4 ⟨rfl,rfl⟩
 go_wp2_with fail
 go_loopw [12,58] (fun a i wr=>∃(j:Nat) (ve:Value),j≤recs.length∧i = .int .i64 (j:Int)∧a = .int .i64 ((F.frames (recs.take j)).length:Int)∧wr.heap[w3.heap.size]? = some (.cells #[.pointer (some ⟨d,0,none⟩),.int .i64 k.lives,.bool false,.int .i64 1,.slice ao3 recs.length c3,ve] 99 (0,0))∧OwnI wr 0 3 ve (endsOf (recs.take j))∧(∀b,ve.ownBlock=some b→w3.heap.size<b)∧OwnL wr w.heap.size (.slice ao3 recs.length c3) recs∧Below w.heap.size w wr∧Below w3.heap.size w3 wr) (fun _ i _=>recs.length - (intOf i).toNat)
 case atStart =>
  refine ⟨0,.slice none 0 0,by omega,rfl,by simp [F.frames],?_,OwnI.nil _ _ _,(fun b hb=>by cases hb),?_,?_,?_⟩
  ·exact heap_new _ _
  ·exact HO3.out.below ((Below.refl _ _).alloc (Nat.le_refl _) _)
  ·exact HB3.out.alloc HB3.out.size _
  ·exact (Below.refl _ _).alloc (Nat.le_refl _) _
 case round =>
  obtain ⟨j,ve,hj,rfl,rfl,hcell,hve,hvb,hrl,hbl,hb3⟩:=hrel
  have HC:=Lib.hid hcell
  have HV:=Lib.hid hve
  have HVB:=Lib.hid hvb
  have HL:=Lib.hid hrl
  have HBL:=Lib.hid hbl
  have HBL3:=Lib.hid hb3
  clear hcell hve hvb hrl hbl hb3
  by_cases hlt:j<recs.length
  ·have hrj:(recs.getD j []).length≤20000:=by
    have e:recs.getD j []=recs[j]:=by simp [List.getD,hlt]
    rw [e]
    exact hrs _ (List.getElem_mem _)
   have hfj:(F.frames (recs.take j)).length+(12+(recs.getD j []).length)=(F.frames (recs.take (j+1))).length:=by
    have e:recs.getD j []=recs[j]:=by simp [List.getD,hlt]
    rw [e,←List.take_append_getElem hlt,frames_more]
   have hfj2:(F.frames (recs.take (j+1))).length≤1048576:=by
    have e:F.frames recs=F.frames (recs.take (j+1))++F.frames (recs.drop (j+1)):=by
     unfold F.frames
     rw [←List.flatMap_append,List.take_append_drop]
    rw [e,List.length_append] at hfl
    omega
   obtain ⟨us,hu,hru,hone,him⟩:=HL.out
   obtain ⟨ao,c,e1,hi,_,_⟩:=own_caps (him j hlt)
   have hgu:=hru
   rcases hru.2 with ⟨_,h0⟩ | ⟨g,cap,cur,e0,_,hg,hgn,hgm,hgs,hgt⟩
   ·omega
   cases e0
   have hcell:wr.cell? ⟨g,j,none⟩=some (.slice ao (recs.getD j []).length c):=by
    have:=World.ownsRow.cellAt hgu j (by omega)
    rw [this,←e1]
    have hun:j<us.length:=by omega
    simp [List.getD,hun]
   have HI:=Lib.hid hi
   clear hu hru hone him hgu hg hgs hgt hgn hgm e1 hi
   have HRJ:=Lib.hid hrj
   have HFJ:=Lib.hid hfj
   clear hrj hfj
   generalize hrl:recs.getD j []=rl at *
   have HRL:=Lib.hid hrl
   clear hrl
   go_wp2_with fail
   refine (size_any ao rl.length c rl HI.out HRJ.out).mono ?_
   rintro e wr2 ⟨rfl,hb⟩
   have HBS:=Lib.hid hb
   clear hb hcell
   have hsum:wrap64 ((F.frames (recs.take j)).length+(12+(rl.length:Int)))=((F.frames (recs.take (j+1))).length:Int):=by
    have:=HFJ.out
    rw [←this]
    unfold wrap64
    omega
   have hfj3:Hid ((F.frames (recs.take (j+1))).length≤1048576):=Lib.hid hfj2
   have HSUM:=Lib.hid (show wrap64 ((F.frames (recs.take j)).length+(12+(rl.length:Int)))=((F.frames (recs.take (j+1))).length:Int) from hsum)
   have hc2:wr2.heap[w3.heap.size]? = some (.cells #[.pointer (some ⟨d,0,none⟩),.int .i64 k.lives,.bool false,.int .i64 1,.slice (some ⟨g,0,none⟩) recs.length c3,ve] 99 (0,0)):=(Only.ofBelow HBS.out []).keeps HC.out (by simp)
   have HC2:=Lib.hid hc2
   clear hc2 hfj2
   generalize hz:(F.frames (recs.take (j+1))).length=z at *
   have HZ:=Lib.hid hz
   clear hz
   have heln:(endsOf (recs.take j)).length=j:=by rw [endsOf_len,List.length_take];omega
   have HELN:=Lib.hid heln
   have hv2:OwnI wr2 0 3 ve (endsOf (recs.take j)):=rows_below HV.out HBS.out
   obtain ⟨ae,ce,e5,_⟩:=hv2.isI
   rw [heln] at e5
   subst e5
   have HV2:=Lib.hid hv2
   have HLEN:Hid ((endsOf (recs.take j)).length+1≤17592186044416):=Lib.hid (by rw [heln];omega)
   clear heln hv2
   have hc5:wr2.cell? ⟨w3.heap.size,5,none⟩=some (.slice ae j ce):=(cell_heap HC2.out 5).trans rfl
   go_wp2_with (at_builtin;refine wpList_append_if rfl (.tmp 70) (.tmp 72) 27 rfl 3 Try.underlying27 F.info3 (.slice ae j ce) (endsOf (recs.take j)) rfl (OwnI.alloc HV2.out _) (some ⟨wr2.heap.size,0,none⟩) 1 1 [(z:Int)] rfl (isI_cell1 (heap_new wr2 _)) HLEN.out ?_)
   intro ve5 w5 ho5 hon5 hfr5
   have h5:=hon5.keeps (heap_old HC2.out (.cells #[.int .i64 (z:Int)] 3)) (ownI_ne (OwnI.alloc HV2.out (.cells #[.int .i64 (z:Int)] 3)) (heap_old HC2.out (.cells #[.int .i64 (z:Int)] 3)) (by simp))
   obtain ⟨a5,c5,e5,_⟩:=ho5.isI
   rw [List.length_append,HELN.out] at e5
   simp only [List.length_cons,List.length_nil,Nat.zero_add] at e5
   subst e5
   have hc6:w5.cell? ⟨w3.heap.size,5,none⟩=some (.slice ae j ce):=(cell_heap h5 5).trans rfl
   have hz:=free_heap h5 5
   have HL5:=Lib.hid h5;have HO5:=Lib.hid ho5;have HON5:=Lib.hid hon5;have HFR5:=Lib.hid hfr5
   clear h5 ho5 hon5 hfr5
   go_wp2_with fail
   case roundEnd =>
    refine ⟨?_,?_⟩
    rotate_left
    ·simp [intOf];omega
    have hlw:w3.heap.size<wr.heap.size:=lt_of_heap HC.out
    have hgt5:∀b,(Value.slice a5 (j+1) c5).ownBlock=some b→w3.heap.size<b:=fun b hb=>by
     rcases HFR5.out b hb with h1 | h1
     ·exact HVB.out b h1
     ·have:=HBS.out.size
      have h2:(wr2.alloc (.cells #[.int .i64 (z:Int)] 3)).heap.size=wr2.heap.size+1:=by simp
      omega
    have hon:Only (w3.heap.size::(Value.slice ae j ce).ownBlock.toList) wr (w5.setCell ⟨w3.heap.size,5,none⟩ (.slice a5 (j+1) c5)):=(((Only.ofBelow HBS.out _).trans (Only.ofBelow ((Below.refl _ _).alloc (Nat.le_refl _) _) _)).trans (HON5.out.mono (fun b hb=>List.mem_cons_of_mem _ hb))).setCell (by simp) _
    have hge:∀b∈(w3.heap.size::(Value.slice ae j ce).ownBlock.toList),w3.heap.size≤b:=fun b hb=>by
     rcases List.mem_cons.1 hb with rfl | hb
     ·exact Nat.le_refl _
     ·exact Nat.le_of_lt (HVB.out b (by simpa using hb))
    have hew:endsOf (recs.take (j+1))=endsOf (recs.take j)++[(z:Int)]:=by
     have e:recs.take (j+1)=recs.take j++[recs[j]]:=(List.take_append_getElem hlt).symm
     have hz2:=HZ.out
     rw [e] at hz2
     rw [e,endsOf_more,hz2]
    refine ⟨j+1,.slice a5 (j+1) c5,by omega,by simp,by rw [HZ.out],heap_set HL5.out 5 _,?_,hgt5,?_,?_,?_⟩
    ·rw [hew]
     exact rows_only0 HO5.out (S:=[w3.heap.size]) ((Only.ofBelow (Below.refl _ _) _).setCell (by simp) _) (fun b hb=>by have:=hgt5 b hb;simp;omega)
    ·refine HL.out.only hon (fun b hb cur=>?_)
     rcases List.mem_cons.1 hb with rfl | hb
     ·rw [HC.out];simp
     ·rw [rows_at HV.out (by simpa using hb)];simp
    ·exact HBL.out.trans (hon.below HBL.out.size (fun b hb=>Nat.le_trans HB3.out.size (hge b hb)))
    ·exact HBL3.out.trans (hon.below (Nat.le_of_lt hlw) hge)
  ·have hj2:j=recs.length:=by omega
   subst hj2
   go_wp2_with fail
   go_ret2
   rw [List.take_length] at HV
   have hlw:w3.heap.size<wr.heap.size:=lt_of_heap HC.out
   obtain ⟨us,hu,hru,hone,him⟩:=HL.out
   have hvr:=fun b hb=>World.ownsRow.lt hru b hb
   have hve:=fun b hb=>HV.out.lt b hb
   have hge:∀b∈(w3.heap.size::((Value.slice ao3 recs.length c3).ownBlock.toList++ve.ownBlock.toList)),w.heap.size≤b∧b<wr.heap.size∧∃cur t,t≠5∧wr.heap[b]? = some (.cells cur t (0,0)):=fun b hb=>by
    rcases List.mem_cons.1 hb with rfl | hb
    ·exact ⟨HB3.out.size,hlw,_,99,by simp,HC.out⟩
    ·rcases List.mem_append.1 hb with hb | hb
     ·have hb2:(Value.slice ao3 recs.length c3).ownBlock=some b:=by simpa using hb
      exact ⟨(hvr b hb2).1,(hvr b hb2).2,_,29,by simp,rows_at (rows_mono hru (Nat.zero_le _)) hb2⟩
     ·have hb2:ve.ownBlock=some b:=by simpa using hb
      exact ⟨Nat.le_trans HB3.out.size (Nat.le_of_lt (HVB.out b hb2)),(hve b hb2).2,_,3,by simp,rows_at HV.out hb2⟩
   have hDlt:∀b∈D,b<w.heap.size:=HD.out.lt
   refine ⟨⟨w3.heap.size,_,rfl,fun A hA=>⟨⟨⟨_,_,HC.out,⟨⟨us,hu,rows_mono hru (Nat.zero_le _),fun i hi=>?_⟩,HV.out,fun b hb=>?_,fun b hb=>?_⟩⟩,List.mem_cons_self,fun b hb=>(hge b hb).2.1⟩,HD.out.below HBL.out,fun b hb hb2=>?_,fun b hb=>List.mem_append_right _ (List.mem_append_left _ hb),fun b hb=>List.mem_append_right _ (List.mem_append_right _ hb),fun b hb=>?_⟩,fun b hb=>(hge b hb).1,HBL.out⟩⟩
   ·obtain ⟨ao4,c4,e4,h1,h2,h3⟩:=own_more (him i hi)
    refine ⟨ao4,c4,e4,h1,h2,fun p hp=>⟨fun hm=>?_,(h3 p hp).2⟩⟩
    rcases List.mem_append.1 hm with hm | hm
    ·have:=hA _ hm;have:=(h3 p hp).1;omega
    rcases List.mem_append.1 hm with hm | hm
    ·have:=hDlt _ hm;have:=(h3 p hp).1;omega
    ·obtain ⟨_,_,cur,t,ht,hc⟩:=hge _ hm
     have hb4:(us.getD i undef).ownBlock=some p.block:=by rw [e4,hp];rfl
     have h6:=rows_at (rows_mono (him i hi) (Nat.zero_le _)) hb4
     rw [hc] at h6
     simp at h6
     exact ht h6
   ·exact List.mem_cons_of_mem _ (List.mem_append_left _ (by simp [hb]))
   ·exact List.mem_cons_of_mem _ (List.mem_append_right _ (by simp [hb]))
   ·have:=hDlt _ hb;have:=(hge _ hb2).1;omega
   ·rcases List.mem_append.1 hb with hb | hb
    ·exact Nat.lt_of_lt_of_le (hA _ hb) HBL.out.size
    rcases List.mem_append.1 hb with hb | hb
    ·exact Nat.lt_of_lt_of_le (hDlt _ hb) HBL.out.size
    ·exact (hge _ hb).2.1
end
end Go.Proofs.Ytnicaicjgaoolaa
namespace Go.Proofs.Ytnicaicjgaoolaa
open Go.RowKit Go.ChangeMaps Go.WideMaps Go.Maps
set_option maxRecDepth 20000
structure OpenQ (w w':World) (D:List Nat) (d:Nat) (e:Ending) (recs:List (List UInt8)) (k:Dk):Prop where
 ex:∃l D' L,e = .returned (.tuple #[.pointer (some ⟨l,0,none⟩),.int .i64 0])∧(∀A:List Nat,(∀b∈A,b<w.heap.size)→WD w' (A++(D'++L)) D' L l d ⟨k.lives,false,recs⟩ k)∧(∀b∈L,w.heap.size≤b)∧Moves D D' w w'
theorem OpenP.q {w w':World} {D:List Nat} {d:Nat} {e:Ending} {recs:List (List UInt8)} {k:Dk} (h:OpenP w w' D d e recs k):OpenQ w w' D d e recs k:=by
 obtain ⟨l,L,h1,h2,h3,h4⟩:=h
 exact ⟨l,D,L,h1,h2,h3,Moves.of_below h4⟩
/-- rows of bytes that lie from base on, below top -/
def OwnLU (w:World) (base top:Nat) (v:Value) (ls:List (List UInt8)):Prop :=
 ∃vs:List Value,vs.length=ls.length∧w.ownsRow base 29 1 v ls.length vs∧(∀u∈vs,u.oneCell'=true)∧(∀i,i<ls.length→OwnB w base 5 (vs.getD i undef) (ls.getD i []))∧(∀b,v.ownBlock=some b→b<top)∧∀i b,(vs.getD i undef).ownBlock=some b→b<top
theorem OwnL.up {w:World} {base:Nat} {v:Value} {ls:List (List UInt8)} (h:OwnL w base v ls):OwnLU w base w.heap.size v ls:=by
 obtain ⟨vs,h1,h2,h3,h4⟩:=h
 refine ⟨vs,h1,h2,h3,h4,fun b hb=>(World.ownsRow.lt h2 b hb).2,fun i b hb=>?_⟩
 by_cases hi:i<ls.length
 ·exact ((h4 i hi).lt b hb).2
 ·rw [List.getD_eq_getElem?_getD,List.getElem?_eq_none (by omega)] at hb
  cases hb
theorem OwnLU.keep {w w':World} {base top:Nat} {v:Value} {ls:List (List UInt8)} {S:List Nat} (h:OwnLU w base top v ls) (ho:Only S w w') (hS:∀b∈S,b<base∨top≤b):OwnLU w' base top v ls:=by
 obtain ⟨vs,h1,h2,h3,h4,h5,h6⟩:=h
 refine ⟨vs,h1,rows_only0 h2 ho (fun b hb hm=>?_),h3,fun i hi=>rows_only0 (h4 i hi) ho (fun b hb hm=>?_),h5,h6⟩
 ·have:=hS b hm;have:=h5 b hb;have:=(World.ownsRow.lt h2 b hb).1;omega
 ·have:=hS b hm;have:=h6 i b hb;have:=((h4 i hi).lt b hb).1;omega
section
variable {w:World} {D:List Nat} {d:Nat} {k:Dk}
theorem open_cut (h:IsDk w D d k) (ho:k.off=false) {bl:List UInt8} {sf:Nat} (hf:k.file=some (bl,sf)) (hl:bl.length≤1048576) (hsf:sf≤bl.length) (hk:¬(F.scanAll bl).2.2=2) (hu:(F.scanAll bl).2.1<bl.length) (hrs:∀r∈(F.scanAll bl).1,r.length≤20000) (hfl:(F.frames (F.scanAll bl).1).length≤1048576) (hmany:(F.scanAll bl).1.length≤1000000) :
  Calls Try.prog 39 #[.pointer (some ⟨d,0,none⟩)] w fun e w'=>OpenQ w w' D d e (F.scanAll bl).1 { k with file:=some (bl.take (F.scanAll bl).2.1,min sf (F.scanAll bl).2.1)}:=by
 have HR:=Lib.hid (base_on h ho)
 have HD:=Lib.hid h
 have HO:=Lib.hid ho
 have HF:=Lib.hid hf
 generalize hq:F.scanAll bl=q at hk hu hrs hfl hmany ⊢
 have HQ:=Lib.hid hq
 obtain ⟨recs,used,how⟩:=q
 simp only at hk hu hrs hfl hmany
 have hu9:(used:Int)<(bl.length:Int):=by omega
 have hle:=Nat.le_of_lt hu
 have hk2:¬(how:Int)=2:=by omega
 clear h ho hf hq
 go_enter Try.func39,Try.ntmps39
 go_wp2_with fail
 refine HR.out.mono ?_
 rintro e w1 ⟨rfl,hb⟩
 have HB:=Lib.hid hb
 clear hb
 go_wp2_with fail
 refine (wread_some (HD.out.below HB.out) HO.out HF.out hl).mono ?_
 rintro e w2 ⟨v,rfl,hv,hb⟩
 have HB2:=Lib.hid (HB.out.trans (hb.mono HB.out.size))
 obtain ⟨ao,c,rfl,hi,hnc,hc9⟩:=own_caps hv
 have HI:=Lib.hid hi
 clear hb hv hi
 go_wp2_with fail
 refine (F.scan2_any ao bl.length c bl w2 HI.out (by omega) hnc hc9).mono ?_
 rintro e wa ⟨v3,hr,ho3,hb3⟩
 rw [HQ.out] at hr ho3
 obtain rfl:=hr
 have HB3:=Lib.hid (HB2.out.trans (hb3.mono HB2.out.size))
 have HO3:=Lib.hid (ho3.mono HB2.out.size)
 clear hb3 ho3
 obtain ⟨ao3,c3,rfl,hc3,hc39⟩:=HO3.out.shape
 have HU3:=Lib.hid HO3.out.up
 go_wp2_with fail
 refine (cut_any (HD.out.below HB3.out) HO.out HF.out used hle hl hsf).mono ?_
 rintro e w3 ⟨D',rfl,hd3,hm3⟩
 have HD3:=Lib.hid hd3
 have HM3:=Lib.hid hm3
 have HL3:Hid (OwnLU w3 w.heap.size wa.heap.size (.slice ao3 recs.length c3) recs):=Lib.hid (HU3.out.keep hm3.only (fun b hb=>.inl (HD.out.lt b hb)))
 have HWA:Hid (w.heap.size≤wa.heap.size∧wa.heap.size≤w3.heap.size):=Lib.hid ⟨HB3.out.size,hm3.only.size⟩
 clear hd3 hm3
 go_wp2_with fail
 refine (lives_any HD3.out).mono ?_
 rintro e w4 ⟨rfl,rfl⟩
 go_wp2_with fail
 go_loopw [12,58] (fun a i wr=>∃(j:Nat) (ve:Value),j≤recs.length∧i = .int .i64 (j:Int)∧a = .int .i64 ((F.frames (recs.take j)).length:Int)∧wr.heap[w3.heap.size]? = some (.cells #[.pointer (some ⟨d,0,none⟩),.int .i64 k.lives,.bool false,.int .i64 1,.slice ao3 recs.length c3,ve] 99 (0,0))∧OwnI wr 0 3 ve (endsOf (recs.take j))∧(∀b,ve.ownBlock=some b→w3.heap.size<b)∧OwnLU wr w.heap.size wa.heap.size (.slice ao3 recs.length c3) recs∧Below w3.heap.size w3 wr) (fun _ i _=>recs.length - (intOf i).toNat)
 case atStart =>
  refine ⟨0,.slice none 0 0,by omega,rfl,by simp [F.frames],?_,OwnI.nil _ _ _,(fun b hb=>by cases hb),?_,?_⟩
  ·exact heap_new _ _
  ·exact HL3.out.keep (Only.ofBelow ((Below.refl _ _).alloc (Nat.le_refl _) _) []) (fun b hb=>by cases hb)
  ·exact (Below.refl _ _).alloc (Nat.le_refl _) _
 case round =>
  obtain ⟨j,ve,hj,rfl,rfl,hcell,hve,hvb,hrl,hb3⟩:=hrel
  have HC:=Lib.hid hcell
  have HV:=Lib.hid hve
  have HVB:=Lib.hid hvb
  have HL:=Lib.hid hrl
  have HBL3:=Lib.hid hb3
  clear hcell hve hvb hrl hb3
  by_cases hlt:j<recs.length
  ·have hrj:(recs.getD j []).length≤20000:=by
    have e:recs.getD j []=recs[j]:=by simp [List.getD,hlt]
    rw [e]
    exact hrs _ (List.getElem_mem _)
   have hfj:(F.frames (recs.take j)).length+(12+(recs.getD j []).length)=(F.frames (recs.take (j+1))).length:=by
    have e:recs.getD j []=recs[j]:=by simp [List.getD,hlt]
    rw [e,←List.take_append_getElem hlt,frames_more]
   have hfj2:(F.frames (recs.take (j+1))).length≤1048576:=by
    have e:F.frames recs=F.frames (recs.take (j+1))++F.frames (recs.drop (j+1)):=by
     unfold F.frames
     rw [←List.flatMap_append,List.take_append_drop]
    rw [e,List.length_append] at hfl
    omega
   obtain ⟨us,hu,hru,hone,him,hut,hux⟩:=HL.out
   obtain ⟨ao,c,e1,hi,_,_⟩:=own_caps (him j hlt)
   have hgu:=hru
   rcases hru.2 with ⟨_,h0⟩ | ⟨g,cap,cur,e0,_,hg,hgn,hgm,hgs,hgt⟩
   ·omega
   cases e0
   have hcell:wr.cell? ⟨g,j,none⟩=some (.slice ao (recs.getD j []).length c):=by
    have:=World.ownsRow.cellAt hgu j (by omega)
    rw [this,←e1]
    have hun:j<us.length:=by omega
    simp [List.getD,hun]
   have HI:=Lib.hid hi
   clear hu hru hone him hut hux hgu hg hgs hgt hgn hgm e1 hi
   have HRJ:=Lib.hid hrj
   have HFJ:=Lib.hid hfj
   clear hrj hfj
   generalize hrl:recs.getD j []=rl at *
   have HRL:=Lib.hid hrl
   clear hrl
   go_wp2_with fail
   refine (size_any ao rl.length c rl HI.out HRJ.out).mono ?_
   rintro e wr2 ⟨rfl,hb⟩
   have HBS:=Lib.hid hb
   clear hb hcell
   have hsum:wrap64 ((F.frames (recs.take j)).length+(12+(rl.length:Int)))=((F.frames (recs.take (j+1))).length:Int):=by
    have:=HFJ.out
    rw [←this]
    unfold wrap64
    omega
   have hfj3:Hid ((F.frames (recs.take (j+1))).length≤1048576):=Lib.hid hfj2
   have HSUM:=Lib.hid (show wrap64 ((F.frames (recs.take j)).length+(12+(rl.length:Int)))=((F.frames (recs.take (j+1))).length:Int) from hsum)
   have hc2:wr2.heap[w3.heap.size]? = some (.cells #[.pointer (some ⟨d,0,none⟩),.int .i64 k.lives,.bool false,.int .i64 1,.slice (some ⟨g,0,none⟩) recs.length c3,ve] 99 (0,0)):=(Only.ofBelow HBS.out []).keeps HC.out (by simp)
   have HC2:=Lib.hid hc2
   clear hc2 hfj2
   generalize hz:(F.frames (recs.take (j+1))).length=z at *
   have HZ:=Lib.hid hz
   clear hz
   have heln:(endsOf (recs.take j)).length=j:=by rw [endsOf_len,List.length_take];omega
   have HELN:=Lib.hid heln
   have hv2:OwnI wr2 0 3 ve (endsOf (recs.take j)):=rows_below HV.out HBS.out
   obtain ⟨ae,ce,e5,_⟩:=hv2.isI
   rw [heln] at e5
   subst e5
   have HV2:=Lib.hid hv2
   have HLEN:Hid ((endsOf (recs.take j)).length+1≤17592186044416):=Lib.hid (by rw [heln];omega)
   clear heln hv2
   have hc5:wr2.cell? ⟨w3.heap.size,5,none⟩=some (.slice ae j ce):=(cell_heap HC2.out 5).trans rfl
   go_wp2_with (at_builtin;refine wpList_append_if rfl (.tmp 70) (.tmp 72) 27 rfl 3 Try.underlying27 F.info3 (.slice ae j ce) (endsOf (recs.take j)) rfl (OwnI.alloc HV2.out _) (some ⟨wr2.heap.size,0,none⟩) 1 1 [(z:Int)] rfl (isI_cell1 (heap_new wr2 _)) HLEN.out ?_)
   intro ve5 w5 ho5 hon5 hfr5
   have h5:=hon5.keeps (heap_old HC2.out (.cells #[.int .i64 (z:Int)] 3)) (ownI_ne (OwnI.alloc HV2.out (.cells #[.int .i64 (z:Int)] 3)) (heap_old HC2.out (.cells #[.int .i64 (z:Int)] 3)) (by simp))
   obtain ⟨a5,c5,e5,_⟩:=ho5.isI
   rw [List.length_append,HELN.out] at e5
   simp only [List.length_cons,List.length_nil,Nat.zero_add] at e5
   subst e5
   have hc6:w5.cell? ⟨w3.heap.size,5,none⟩=some (.slice ae j ce):=(cell_heap h5 5).trans rfl
   have hz:=free_heap h5 5
   have HL5:=Lib.hid h5;have HO5:=Lib.hid ho5;have HON5:=Lib.hid hon5;have HFR5:=Lib.hid hfr5
   clear h5 ho5 hon5 hfr5
   go_wp2_with fail
   case roundEnd =>
    refine ⟨?_,?_⟩
    rotate_left
    ·simp [intOf];omega
    have hlw:w3.heap.size<wr.heap.size:=lt_of_heap HC.out
    have hgt5:∀b,(Value.slice a5 (j+1) c5).ownBlock=some b→w3.heap.size<b:=fun b hb=>by
     rcases HFR5.out b hb with h1 | h1
     ·exact HVB.out b h1
     ·have:=HBS.out.size
      have h2:(wr2.alloc (.cells #[.int .i64 (z:Int)] 3)).heap.size=wr2.heap.size+1:=by simp
      omega
    have hon:Only (w3.heap.size::(Value.slice ae j ce).ownBlock.toList) wr (w5.setCell ⟨w3.heap.size,5,none⟩ (.slice a5 (j+1) c5)):=(((Only.ofBelow HBS.out _).trans (Only.ofBelow ((Below.refl _ _).alloc (Nat.le_refl _) _) _)).trans (HON5.out.mono (fun b hb=>List.mem_cons_of_mem _ hb))).setCell (by simp) _
    have hge:∀b∈(w3.heap.size::(Value.slice ae j ce).ownBlock.toList),w3.heap.size≤b:=fun b hb=>by
     rcases List.mem_cons.1 hb with rfl | hb
     ·exact Nat.le_refl _
     ·exact Nat.le_of_lt (HVB.out b (by simpa using hb))
    have hew:endsOf (recs.take (j+1))=endsOf (recs.take j)++[(z:Int)]:=by
     have e:recs.take (j+1)=recs.take j++[recs[j]]:=(List.take_append_getElem hlt).symm
     have hz2:=HZ.out
     rw [e] at hz2
     rw [e,endsOf_more,hz2]
    refine ⟨j+1,.slice a5 (j+1) c5,by omega,by simp,by rw [HZ.out],heap_set HL5.out 5 _,?_,hgt5,?_,?_⟩
    ·rw [hew]
     exact rows_only0 HO5.out (S:=[w3.heap.size]) ((Only.ofBelow (Below.refl _ _) _).setCell (by simp) _) (fun b hb=>by have:=hgt5 b hb;simp;omega)
    ·exact HL.out.keep hon (fun b hb=>.inr (Nat.le_trans HWA.out.2 (hge b hb)))
    ·exact HBL3.out.trans (hon.below (Nat.le_of_lt hlw) hge)
  ·have hj2:j=recs.length:=by omega
   subst hj2
   go_wp2_with fail
   go_ret2
   rw [List.take_length] at HV
   have hlw:w3.heap.size<wr.heap.size:=lt_of_heap HC.out
   obtain ⟨us,hu,hru,hone,him,hut,hux⟩:=HL.out
   have hvr:=fun b hb=>World.ownsRow.lt hru b hb
   have hve:=fun b hb=>HV.out.lt b hb
   have hge:∀b∈(w3.heap.size::((Value.slice ao3 recs.length c3).ownBlock.toList++ve.ownBlock.toList)),w.heap.size≤b∧b<wr.heap.size∧(b<wa.heap.size∨w3.heap.size≤b)∧∃cur t,t≠5∧wr.heap[b]? = some (.cells cur t (0,0)):=fun b hb=>by
    rcases List.mem_cons.1 hb with rfl | hb
    ·exact ⟨Nat.le_trans HWA.out.1 HWA.out.2,hlw,.inr (Nat.le_refl _),_,99,by simp,HC.out⟩
    ·rcases List.mem_append.1 hb with hb | hb
     ·have hb2:(Value.slice ao3 recs.length c3).ownBlock=some b:=by simpa using hb
      exact ⟨(hvr b hb2).1,(hvr b hb2).2,.inl (hut b hb2),_,29,by simp,rows_at (rows_mono hru (Nat.zero_le _)) hb2⟩
     ·have hb2:ve.ownBlock=some b:=by simpa using hb
      exact ⟨Nat.le_trans (Nat.le_trans HWA.out.1 HWA.out.2) (Nat.le_of_lt (HVB.out b hb2)),(hve b hb2).2,.inr (Nat.le_of_lt (HVB.out b hb2)),_,3,by simp,rows_at HV.out hb2⟩
   have hDlt:∀b∈D',b<w3.heap.size∧(b<w.heap.size∨wa.heap.size≤b):=fun b hb=>⟨HD3.out.lt b hb,(HM3.out.gr b hb).imp (fun h=>HD.out.lt b h) id⟩
   refine ⟨⟨w3.heap.size,D',_,rfl,fun A hA=>⟨⟨⟨_,_,HC.out,⟨⟨us,hu,rows_mono hru (Nat.zero_le _),fun i hi=>?_⟩,HV.out,fun b hb=>?_,fun b hb=>?_⟩⟩,List.mem_cons_self,fun b hb=>(hge b hb).2.1⟩,HD3.out.below HBL3.out,fun b hb hb2=>?_,fun b hb=>List.mem_append_right _ (List.mem_append_left _ hb),fun b hb=>List.mem_append_right _ (List.mem_append_right _ hb),fun b hb=>?_⟩,fun b hb=>(hge b hb).1,((Moves.of_below HB3.out).trans HM3.out).trans (Moves.of_below HBL3.out)⟩⟩
   ·obtain ⟨ao4,c4,e4,h1,h2,h3⟩:=own_more (him i hi)
    refine ⟨ao4,c4,e4,h1,h2,fun p hp=>⟨fun hm=>?_,(h3 p hp).2⟩⟩
    have hb4:(us.getD i undef).ownBlock=some p.block:=by rw [e4,hp];rfl
    rcases List.mem_append.1 hm with hm | hm
    ·have:=hA _ hm;have:=(h3 p hp).1;omega
    rcases List.mem_append.1 hm with hm | hm
    ·have h7:=hDlt _ hm;have:=(h3 p hp).1;have:=hux i p.block hb4;omega
    ·obtain ⟨_,_,_,cur,t,ht,hc⟩:=hge _ hm
     have h6:=rows_at (rows_mono (him i hi) (Nat.zero_le _)) hb4
     rw [hc] at h6
     simp at h6
     exact ht h6
   ·exact List.mem_cons_of_mem _ (List.mem_append_left _ (by simp [hb]))
   ·exact List.mem_cons_of_mem _ (List.mem_append_right _ (by simp [hb]))
   ·have h7:=hDlt _ hb;have h8:=hge _ hb2;have:=HWA.out;omega
   ·rcases List.mem_append.1 hb with hb | hb
    ·exact Nat.lt_of_lt_of_le (hA _ hb) (Nat.le_trans (Nat.le_trans HWA.out.1 HWA.out.2) HBL3.out.size)
    rcases List.mem_append.1 hb with hb | hb
    ·exact Nat.lt_of_lt_of_le (hDlt _ hb).1 HBL3.out.size
    ·exact (hge _ hb).2.1
end
end Go.Proofs.Ytnicaicjgaoolaa
