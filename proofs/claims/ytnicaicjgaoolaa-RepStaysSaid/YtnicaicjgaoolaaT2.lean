/-
  What the proof of the law leans on: contracts of the program's functions, one behind another. No condition.
-/
import Derived.BigQuiet
import Derived.Deep.QuietTactic
import Derived.Lib.AppendZerosOnto
import Derived.Lib.SliceRun
import Derived.Lib.Walk
import Derived.Deep.RegionWith
import Derived.Deep.DrawnRows
import Derived.Laws.IdiomRangeMap
import Derived.Test.YtnicaicjgaoolaaT1
set_option linter.unusedVariables false
set_option linter.unusedSimpArgs false
namespace Go.Proofs.Ytnicaicjgaoolaa.F
open Go.Proofs.Ytnicaicjgaoolaa
open Go.RowKit

theorem info5:(Try.prog.info? 5).map (fun i=>(i.zero,i.size,i.bytes))=some (some (.int .u8 0),1,1):=by kernel_rfl

/-- the byte of place i, of four -/
def b4 (c:BitVec 32) (i:Nat):UInt8:=UInt8.ofNat (c.toNat / 2 ^ (8*(3 - i)))
def be4 (c:BitVec 32):List UInt8:=[b4 c 0,b4 c 1,b4 c 2,b4 c 3]
theorem be4_len (c:BitVec 32):(be4 c).length=4:=rfl
theorem b4_eq (c:BitVec 32) (i:Nat) (hi:i<4) (d:Int) (hd:d=((2 ^ (8*(3 - i)):Nat):Int)):(c.toNat:Int) / d % 256=((b4 c i).toNat:Int):=by
 subst hd
 unfold b4
 rw [UInt8.toNat_ofNat',Int.natCast_emod,Int.natCast_ediv]
 rfl
theorem b4_last (c:BitVec 32):(c.toNat:Int) % 256=((b4 c 3).toNat:Int):=by
 have:=b4_eq c 3 (by decide) 1 (by decide)
 rwa [Int.ediv_one] at this
/-- the number of four bytes -/
def num4 (x0 x1 x2 x3:UInt8):BitVec 32:=BitVec.ofNat 32 (x0.toNat*16777216+x1.toNat*65536+x2.toNat*256+x3.toNat)
theorem num4_nat (x0 x1 x2 x3:UInt8):(num4 x0 x1 x2 x3).toNat=x0.toNat*16777216+x1.toNat*65536+x2.toNat*256+x3.toNat:=by
 unfold num4
 have h0:=x0.toNat_lt
 have h1:=x1.toNat_lt
 have h2:=x2.toNat_lt
 have h3:=x3.toNat_lt
 rw [BitVec.toNat_ofNat,Nat.mod_eq_of_lt (by omega)]
def at4 (l:List UInt8) (i:Nat):BitVec 32:=num4 (l.getD i 0) (l.getD (i+1) 0) (l.getD (i+2) 0) (l.getD (i+3) 0)

theorem cells4 (c:BitVec 32):#[Value.int .u8 ((c.toNat:Int) / 16777216),Value.int .u8 ((c.toNat:Int) / 65536 % 256),Value.int .u8 ((c.toNat:Int) / 256 % 256),Value.int .u8 ((c.toNat:Int) % 256)]=((be4 c).map bv).toArray:=by
 have hlt:=c.isLt
 rw [show (c.toNat:Int) / 16777216=(c.toNat:Int) / 16777216 % 256 by omega,b4_eq c 0 (by decide) 16777216 (by decide),b4_eq c 1 (by decide) 65536 (by decide),b4_eq c 2 (by decide) 256 (by decide),b4_last c]
 rfl

set_option maxHeartbeats 400000 in
theorem number_any (base:Nat) (v:Value) (l:List UInt8) (c:BitVec 32) (w:World) (h:OwnB w base 5 v l) (hl:l.length≤70368744177664) (hb:base≤w.heap.size) :
  Calls Try.prog 86 #[v,.int .u32 (c.toNat:Int)] w fun e w'=>∃v',e = .returned v'∧OwnB w' base 5 v' (l++be4 c)∧Below base w w':=by
 have hlt:=c.isLt
 have hc1:l.length+4≤140737488355328:=by omega
 have HC:=Lib.hid (cells4 c)
 have HO:=Lib.hid h;clear h
 have h0:(0:Int)≤(c.toNat:Int):=by omega
 have h1:(c.toNat:Int)<4294967296:=by omega
 generalize (c.toNat:Int)=z at HC h0 h1
 clear hlt
 go_enter Try.func86,Try.ntmps86
 go_wp2_with (at_builtin;refine wpList_append_bytes rfl _ _ 29 rfl base 5 Try.underlying29 info5 _ _ rfl (HO.out.alloc _) _ _ _ (be4 c) rfl (isB_new _ (be4 c) _ HC.out _ _ _ rfl 4 rfl _) hc1 (by simp;omega) ?_;intro v3 w3 hown3 hgr3 hb4)
 go_ret
 exact ⟨_,rfl,hown3,((Below.refl _ _).alloc hb _).trans hb4⟩

theorem or_add (a b k:Nat) (h:b<2 ^ k):a*2 ^ k ||| b=a*2 ^ k+b:=by
 have:=Nat.shiftLeft_add_eq_or_of_lt (i:=k) h a
 rw [Nat.shiftLeft_eq] at this
 exact this.symm
theorem or4 (x0 x1 x2 x3:UInt8):bits .or .u32 (bits .or .u32 (bits .or .u32 ((x0.toNat:Int) % 4294967296*16777216 % 4294967296) ((x1.toNat:Int) % 4294967296*65536 % 4294967296)) ((x2.toNat:Int) % 4294967296*256 % 4294967296)) ((x3.toNat:Int) % 4294967296)=((num4 x0 x1 x2 x3).toNat:Int):=by
 have h0:=x0.toNat_lt
 have h1:=x1.toNat_lt
 have h2:=x2.toNat_lt
 have h3:=x3.toNat_lt
 rw [num4_nat]
 generalize x0.toNat=a at *
 generalize x1.toNat=b at *
 generalize x2.toNat=c at *
 generalize x3.toNat=d at *
 rw [show (a:Int) % 4294967296*16777216 % 4294967296=((a*16777216:Nat):Int) by omega,show (b:Int) % 4294967296*65536 % 4294967296=((b*65536:Nat):Int) by omega,
  show (c:Int) % 4294967296*256 % 4294967296=((c*256:Nat):Int) by omega,show (d:Int) % 4294967296=((d:Nat):Int) by omega]
 have e1:a*16777216 ||| b*65536=a*16777216+b*65536:=or_add a (b*65536) 24 (by omega)
 have e2:(a*256+b)*65536 ||| c*256=(a*256+b)*65536+c*256:=or_add _ (c*256) 16 (by omega)
 have e3:(a*65536+b*256+c)*256 ||| d=(a*65536+b*256+c)*256+d:=or_add _ d 8 (by omega)
 rw [u32_or_nat _ _ (by omega) (by omega),e1,show a*16777216+b*65536=(a*256+b)*65536 by omega,u32_or_nat _ _ (by omega) (by omega),e2,
  show (a*256+b)*65536+c*256=(a*65536+b*256+c)*256 by omega,u32_or_nat _ _ (by omega) (by omega),e3]
set_option maxHeartbeats 400000 in
theorem at_any (ao:Option Addr) (n cp:Nat) (l:List UInt8) (i:Nat) (w:World) (h:IsB w ao n cp l) (hn:n≤70368744177664) (hi:i+4≤n) :
  Calls Try.prog 83 #[.slice ao n cp,.int .i64 (i:Int)] w fun e w'=>∃d,e = .returned (.int .u32 ((at4 l i).toNat:Int))∧w'=w.drewN d:=by
 obtain ⟨b,off,rfl,hc⟩:∃b off,ao=some ⟨b,off,none⟩∧∀i,i<n→w.cell? ⟨b,off+i,none⟩=some (.int .u8 ((l.getD i 0).toNat:Int)):=by
  rcases h.at_ with h0 | h0
  ·omega
  ·exact h0
 have c0:=hc i (by omega)
 have c1:=hc (i+1) (by omega)
 have c2:=hc (i+2) (by omega)
 have c3:=hc (i+3) (by omega)
 clear h hc
 have hnum:=num4_nat (l.getD i 0) (l.getD (i+1) 0) (l.getD (i+2) 0) (l.getD (i+3) 0)
 have HV:=Lib.hid (show at4 l i=num4 (l.getD i 0) (l.getD (i+1) 0) (l.getD (i+2) 0) (l.getD (i+3) 0) from rfl)
 generalize l.getD i 0=x0 at *
 generalize l.getD (i+1) 0=x1 at *
 generalize l.getD (i+2) 0=x2 at *
 generalize l.getD (i+3) 0=x3 at *
 have HN:=Lib.hid hnum;clear hnum
 go_enter Try.func83,Try.ntmps83
 go_wp2_with fail
 go_quiet (fail)
 go_wp2_with fail
 go_ret
 exact ⟨nq,ret_u32 (by rw [HV.out];exact or4 _ _ _ _),rfl⟩

set_option maxHeartbeats 400000 in
theorem clone_any (ao:Option Addr) (n c:Nat) (l:List UInt8) (w:World) (h:IsB w ao n c l) (hn:n≤70368744177664) :
  Calls Try.prog 26 #[.slice ao n c] w fun e w'=>∃v',e = .returned v'∧OwnB w' w.heap.size 5 v' l∧Below w.heap.size w w':=by
 have hc0:([]:List UInt8).length+n≤140737488355328:=by simp;omega
 have HO:=Lib.hid h;clear h
 have hnil:=fun (w:World)=>Lib.run_eql_slice_nil (P:=Try.prog) w 29 5 ao n c 0 0 Try.underlying29
 cases ao with
 | none =>
  obtain ⟨rfl,rfl⟩:=HO.out.nil rfl
  obtain rfl:l=[]:=List.length_eq_zero_iff.1 HO.out.len
  go_enter Try.func26,Try.ntmps26
  go_wp2_with fail
  go_ret
  exact ⟨_,rfl,OwnB.nil _ _ _,Below.refl _ _⟩
 | some a =>
  go_enter Try.func26,Try.ntmps26
  go_wp2_with (at_builtin;refine wpList_append_bytes rfl _ _ 29 rfl w.heap.size 5 Try.underlying29 info5 _ [] rfl (OwnB.new _ _ _ [] _ rfl _ rfl (by exact Nat.le_refl _) 0 rfl (by decide)) _ _ _ _ rfl (HO.out.alloc _) hc0 (by simp) ?_;intro v2 w2 hown2 hgr2 hb2;clear hgr2)
  go_ret
  exact ⟨_,rfl,by simpa using hown2,((Below.refl _ _).alloc (Nat.le_refl _) _).trans hb2⟩
end Go.Proofs.Ytnicaicjgaoolaa.F
namespace Go.Proofs.Ytnicaicjgaoolaa.F
open Go.Proofs.Ytnicaicjgaoolaa
open Go.RowKit

set_option maxHeartbeats 1000000 in
theorem grow_any (n:Nat) (w:World) (hn:n≤70368744177664) :
  Calls Try.prog 91 #[.slice none 0 0,.int .i64 (n:Int)] w fun e w'=>∃v',e = .returned v'∧OwnB w' w.heap.size 5 v' []∧Below w.heap.size w w':=by
 by_cases h0:n=0
 ·subst h0
  go_enter Try.func91,Try.ntmps91
  go_wp2_with fail
  go_ret
  exact ⟨_,rfl,OwnB.nil _ _ _,Below.refl _ _⟩
 ·obtain ⟨i0,hi0,hz0,hz1,hz2⟩:=info_parts info5
  have hold:(Builtin.firstCells i0.size 0 (.slice none 0 0)).run Try.prog w.drew = .ok (#[]:Array Value) w.drew:=run_firstCells_none w.drew i0.size 0 0 0
  have hfit:Builtin.nextslicecap (0+n) 0*i0.bytes≤281474976710656:=by
   refine growslice_fits (by omega) ?_
   rw [hz2];omega
  have hrz:=fun ty=>Lib.run_append_grow_zeros w 29 3 ty 5 i0 (.int .u8 0) .i64 .i64 Try.underlying29 Try.underlying3 hi0 hz0 none 0 0 [] hold n (by omega) (by omega) (by omega) (by omega) (by rw [hz2];omega) hfit
  rw [Nat.zero_add] at hrz
  have hge:=grownCap_ge w n 0 5
  have hle:=grownCap_le_maxLen w n 0 5 (by unfold maxLen;omega)
  have hcs:((([]:List Value).toArray++Builtin.zeroCells (Value.int .u8 0).cells n++Builtin.zeroCells (Value.int .u8 0).cells (grownCap w n 0 5 - n)):Array Value).size=grownCap w n 0 5:=by
   simp [Builtin.zeroCells,Value.cells]
   omega
  generalize ([]:List Value).toArray++Builtin.zeroCells (Value.int .u8 0).cells n++Builtin.zeroCells (Value.int .u8 0).cells (grownCap w n 0 5 - n)=cur at hrz hcs
  generalize grownCap w n 0 5=G at hrz hge hle hcs
  have HC:=Lib.hid hcs
  have HR:=Lib.hid hrz
  clear hfit hold hcs hrz hi0 hz0 hz1 hz2
  unfold maxLen at hle
  have g0:(0:Int)<(n:Int):=by omega
  go_enter Try.func91,Try.ntmps91
  go_wp2_with (at_builtin;refine Lib.wpList_append_run _ rfl _ _ _ _ rfl _ _ rfl rfl _ _ (HR.out _) ?_)
  go_ret
  refine ⟨_,rfl,⟨by simp,.inr ⟨_,_,_,rfl,Nat.le_refl _,heap_new w.drew _,by simp,by unfold maxLen;omega,by simpa using HC.out,by simp⟩⟩,((Below.refl _ _).drew).alloc (Nat.le_refl _) _⟩

theorem flat_len (ls:List (List UInt8)) (k:Nat) (h:k<ls.length):(ls.take (k+1)).flatten.length=(ls.take k).flatten.length+(ls.getD k []).length:=by
 rw [take_flat ls k h,List.length_append]
theorem flat_le (ls:List (List UInt8)) (k:Nat):(ls.take k).flatten.length≤ls.flatten.length:=by
 have:=congrArg List.length (congrArg List.flatten (List.take_append_drop k ls))
 rw [List.flatten_append,List.length_append] at this
 omega

set_option maxHeartbeats 1000000 in
theorem concat_any (b off len cap:Nat) (ls:List (List UInt8)) (w:World) (hlen:ls.length=len) (hm:ls.flatten.length≤70368744177664) (hl9:len≤1000)
  (hc:∀i,i<len→∃a n c,w.cell? ⟨b,off+i,none⟩=some (.slice a n c)∧IsB w a n c (ls.getD i [])∧n≤140737488351232) :
  Calls Try.prog 87 #[.slice (some ⟨b,off,none⟩) len cap] w fun e w'=>∃v',e = .returned v'∧OwnB w' w.heap.size 5 v' ls.flatten∧Below w.heap.size w w':=by
 have HC:=Lib.hid hc;clear hc
 have HL:=Lib.hid hlen;clear hlen
 go_enter Try.func87,Try.ntmps87
 go_wp2_with fail
 go_loop [3,11] (fun c i=>∃k:Nat,k≤len∧i = .int .i64 (k:Int)∧c = .int .i64 (((ls.take k).flatten.length:Nat):Int)) (fun _ i=>len - (intOf i).toNat)
 case atStart=>exact ⟨0,Nat.zero_le _,rfl,rfl⟩
 case round =>
  obtain ⟨k,hk,rfl,rfl⟩:=hrel
  by_cases hlt:k<len
  ·obtain ⟨a,n,c,hcell,hb,hn⟩:=HC.out k hlt
   have hfl:=flat_len ls k (by rw [HL.out];exact hlt)
   have hbl:=hb.len
   have hle:=flat_le ls (k+1)
   rw [hbl] at hfl
   rw [hfl] at hle
   generalize (ls.take k).flatten.length=q at hfl hle
   have HF:=Lib.hid hfl
   have hq:q+n≤70368744177664:=by omega
   clear hb hfl hbl hle
   go_wp2_with fail
   go_round
   case rel=>exact ⟨k+1,by omega,by go_num,by rw [HF.out];go_num⟩
   case measure=>simp [intOf];omega
  ·obtain rfl:k=len:=by omega
   rw [List.take_of_length_le (by rw [HL.out];exact Nat.le_refl _)]
   generalize hq:ls.flatten.length=q at hm
   have HQ:=Lib.hid hq;clear hq
   go_wp2_with fail
   refine (grow_any q _ hm).mono ?_
   rintro e w1 ⟨v1,rfl,hown1,hb1⟩
   have HO:=Lib.hid hown1;clear hown1
   go_wp2_with fail
   go_loopw [6,27] (fun v i wr=>∃j:Nat,j≤k∧i = .int .i64 (j:Int)∧OwnB wr w.heap.size 5 v (ls.take j).flatten∧Below w.heap.size w wr) (fun _ i _=>k - (intOf i).toNat)
   case atStart=>exact ⟨0,Nat.zero_le _,rfl,HO.out,hb1⟩
   case round =>
    clear hb1 HO
    obtain ⟨j,hj,rfl,hown,hbl⟩:=hrel
    by_cases hlt2:j<k
    ·obtain ⟨a,n,c,hcell0,hb,hn⟩:=HC.out j hlt2
     have hcell:=cell_later hbl hcell0
     have hfl:=flat_len ls j (by rw [HL.out];exact hlt2)
     have hft:=take_flat ls j (by rw [HL.out];exact hlt2)
     have hbn:=hb.len
     have hle:=flat_le ls (j+1)
     have hz:=hbl.size
     have hc1:(ls.take j).flatten.length+n≤140737488355328:=by rw [hbn] at hfl;rw [HQ.out] at hle;omega
     have HB:=Lib.hid (hb.below hbl)
     have HT:=Lib.hid hft
     have HO:=Lib.hid hown
     clear hb hfl hft hbn hle hown hcell0
     go_wp2_with (at_builtin;refine wpList_append_bytes rfl _ _ 29 rfl w.heap.size 5 Try.underlying29 info5 _ _ rfl HO.out _ _ _ _ rfl HB.out hc1 hz ?_;intro v2 w2 hown2 hgr2 hb2;clear hgr2)
     go_roundw
     case rel=>exact ⟨j+1,by omega,by go_num,by rw [HT.out];exact hown2,hbl.trans hb2⟩
     case measure=>simp [intOf];omega
    ·obtain rfl:j=k:=by omega
     rw [List.take_of_length_le (by rw [HL.out];exact Nat.le_refl _)] at hown
     go_wp2_with fail
     go_ret
     exact ⟨_,rfl,hown,hbl⟩
end Go.Proofs.Ytnicaicjgaoolaa.F
namespace Go.Proofs.Ytnicaicjgaoolaa.F
open Go.Proofs.Ytnicaicjgaoolaa
open Go.RowKit

def headF (rec:List UInt8):List UInt8:=be4 (BitVec.ofNat 32 rec.length)++be4 (~~~ (BitVec.ofNat 32 rec.length))
/-- a record's frame -/
def frameF (rec:List UInt8):List UInt8:=headF rec++be4 (Crc.crc (headF rec++rec))++rec
theorem headF_len (rec:List UInt8):(headF rec).length=8:=rfl
theorem frameF_len (rec:List UInt8):(frameF rec).length=12+rec.length:=by
 unfold frameF
 rw [List.length_append,List.length_append,headF_len,be4_len]

theorem two_cells (w:World) (a1:Option Addr) (n1 c1:Nat) (l1:List UInt8) (h1:IsB w a1 n1 c1 l1) (m1:n1≤140737488351232) (a2:Option Addr) (n2 c2:Nat) (l2:List UInt8) (h2:IsB w a2 n2 c2 l2) (m2:n2≤140737488351232) (t:TypeId) (fr:Nat×Nat) (H:Nat) (hH:H=w.heap.size) :
  ∀i,i<2→∃a n c,(w.alloc (.cells #[.slice a1 n1 c1,.slice a2 n2 c2] t fr)).cell? ⟨H,0+i,none⟩=some (.slice a n c)∧IsB (w.alloc (.cells #[.slice a1 n1 c1,.slice a2 n2 c2] t fr)) a n c ([l1,l2].getD i [])∧n≤140737488351232:=by
 subst hH
 intro i hi
 rcases (by omega:i=0∨i=1) with rfl | rfl
 ·exact ⟨a1,n1,c1,by rw [World.cell?_alloc_mark];rfl,h1.alloc _,m1⟩
 ·exact ⟨a2,n2,c2,by rw [World.cell?_alloc_mark];rfl,h2.alloc _,m2⟩
theorem own_len {w:World} {base:Nat} {e:TypeId} {v:Value} {l:List UInt8} (h:OwnB w base e v l) (n:Nat) (hn:l.length=n) :
  ∃ao c,v = .slice ao n c∧IsB w ao n c l:=by
 subst hn;exact h.isB
theorem nat32 (m:Nat) (h:m<4294967296):((BitVec.ofNat 32 m).toNat:Int)=(m:Int):=by
 rw [BitVec.toNat_ofNat,Nat.mod_eq_of_lt (by omega)]

set_option maxHeartbeats 1000000 in
theorem put_ok (ao:Option Addr) (n c:Nat) (B:List UInt8) (ar:Option Addr) (m cr:Nat) (rec:List UInt8) (w:World) (h:IsB w ao n c B) (hr:IsB w ar m cr rec) (hn:n≤1099511627776) (hm:m≤20000) :
  Calls Try.prog 75 #[.slice ao n c,.slice ar m cr] w fun e w'=>∃v',e = .returned (.tuple #[v',.int .i64 0])∧OwnB w' w.heap.size 5 v' (B++frameF rec)∧Below w.heap.size w w':=by
 have hlr:=hr.len
 have hlB:=h.len
 have HB:=Lib.hid h;clear h
 have HR:=Lib.hid hr;clear hr
 have hc:=nat32 m (by omega)
 have hnot:=not_walk (BitVec.ofNat 32 m)
 rw [hc] at hnot
 have HN:=Lib.hid hnot;clear hnot
 have HC:=Lib.hid hc;clear hc
 have HL:=Lib.hid hlr;clear hlr
 have HLB:=Lib.hid hlB;clear hlB
 go_enter Try.func75,Try.ntmps75
 go_wp2_with fail
 rw [←HC.out]
 refine (number_any w.heap.size (.slice none 0 0) [] (BitVec.ofNat 32 m) w (OwnB.nil _ _ _) (by decide) (Nat.le_refl _)).mono ?_
 rw [HC.out]
 rintro e w1 ⟨v1,rfl,hown1,hb1⟩
 rw [List.nil_append] at hown1
 have HO1:=Lib.hid hown1;clear hown1
 have hsg:¬(IntKind.u32.signed=true):=by decide
 go_wp2_with fail
 rw [HN.out]
 refine (number_any w.heap.size v1 _ (~~~ (BitVec.ofNat 32 m)) w1 HO1.out (by rw [be4_len];decide) hb1.size).mono ?_
 rintro e w2 ⟨v2,rfl,hown2,hb2⟩
 have hhd:be4 (BitVec.ofNat 32 m)++be4 (~~~ (BitVec.ofNat 32 m))=headF rec:=by unfold headF;rw [HL.out]
 rw [hhd] at hown2
 clear hhd
 obtain ⟨a2,c2,rfl,hbs2⟩:=own_len hown2 8 (headF_len _)
 have hB2:Below w.heap.size w w2:=hb1.trans hb2
 have hz2:=hB2.size
 have H2:=Lib.hid (two_cells w2 ao n c B (HB.out.below hB2) (by omega) a2 8 c2 (headF rec) hbs2 (by decide) 29 (0,0) w2.heap.size rfl)
 have HS2:=Lib.hid hbs2
 clear hown2 hbs2 hb1 hb2 HO1
 go_wp2_with fail
 refine (concat_any w2.heap.size 0 2 2 [B,headF rec] _ rfl (by simp only [List.flatten_cons,List.flatten_nil,List.length_append,List.length_nil,headF_len,HLB.out];omega) (by decide) H2.out).mono ?_
 rintro e w3 ⟨v3,rfl,hown3,hb3⟩
 have hz3:w.heap.size≤w3.heap.size:=by have:=hb3.size;simp at this;omega
 have hB3:Below w.heap.size w w3:=(hB2.alloc hz2 _).trans (hb3.mono (by simp;omega))
 have hS3:=(HS2.out.alloc (.cells #[.slice ao n c,.slice a2 8 c2] 29)).below hb3
 rw [show [B,headF rec].flatten=B++headF rec from by simp] at hown3
 have H3:=Lib.hid (two_cells w3 a2 8 c2 (headF rec) hS3 (by decide) ar m cr rec (HR.out.below hB3) (by omega) 29 (0,0) w3.heap.size rfl)
 have HO3:=Lib.hid (hown3.mono (base':=w.heap.size) (by simp;omega))
 clear hown3 hb3 hS3 H2 HS2 hB2 hz2
 go_wp2_with fail
 refine (of_some 2 [headF rec,rec] w3.heap.size 0 2 _ rfl (by decide) H3.out).mono ?_
 rintro e w4 ⟨rfl,rfl⟩
 rw [show [headF rec,rec].flatten=headF rec++rec from by simp]
 go_wp2_with fail
 have hB4:Below w.heap.size w (w3.alloc (.cells #[.slice a2 8 c2,.slice ar m cr] 29)):=hB3.alloc hz3 _
 have hl4:(B++headF rec).length≤70368744177664:=by rw [List.length_append,headF_len,HLB.out];omega
 refine (number_any w.heap.size v3 _ (Crc.crc (headF rec++rec)) _ (HO3.out.alloc _) hl4 (by simp;omega)).mono ?_
 rintro e w5 ⟨v5,rfl,hown5,hb5⟩
 have hB5:Below w.heap.size w w5:=hB4.trans hb5
 have hl5:(B++headF rec++be4 (Crc.crc (headF rec++rec))).length+m≤140737488355328:=by
  rw [List.length_append,be4_len];omega
 have HR5:=Lib.hid (HR.out.below hB5)
 have HO5:=Lib.hid hown5
 have HF:Hid ((B++headF rec++be4 (Crc.crc (headF rec++rec)))++rec=B++frameF rec):=Lib.hid (by unfold frameF;simp only [List.append_assoc])
 generalize B++headF rec++be4 (Crc.crc (headF rec++rec))=B5 at HF HO5 hl5
 clear H3 HO3 hB3 hB4 hl4 hown5 hb5 hz3
 have hz5:=hB5.size
 go_wp2_with (at_builtin;refine wpList_append_bytes rfl _ _ 29 rfl w.heap.size 5 Try.underlying29 info5 _ _ rfl HO5.out _ _ _ _ rfl HR5.out hl5 hz5 ?_;intro v6 w6 hown6 hgr6 hb6;clear hgr6)
 go_ret2
 exact ⟨_,rfl,by rw [←HF.out];exact hown6,hB5.trans hb6⟩

set_option maxHeartbeats 400000 in
theorem put_long (ao:Option Addr) (n c:Nat) (ar:Option Addr) (m cr:Nat) (w:World) (hm:20000<m) (hm9:m≤140737488351232) :
  Calls Try.prog 75 #[.slice ao n c,.slice ar m cr] w fun e w'=>e = .returned (.tuple #[.slice none 0 0,.int .i64 2])∧w=w':=by
 go_enter Try.func75,Try.ntmps75
 go_wp2_with fail
 go_ret2
 exact ⟨rfl,rfl⟩

end Go.Proofs.Ytnicaicjgaoolaa.F
namespace Go.Proofs.Ytnicaicjgaoolaa.F
open Go.Proofs.Ytnicaicjgaoolaa
open Go.RowKit
attribute [local go_sem ↓] Go.wp_at_zero Go.wp_at_succ

/-- how many bytes the next frame has, and what is wrong with it -/
def nextF (l:List UInt8):Nat×Nat :=
 if l.length<12 then (0,1)
 else if at4 l 4 ≠ ~~~ (at4 l 0)∨20000<(at4 l 0).toNat then (0,2)
 else if l.length<12+(at4 l 0).toNat then (0,1)
 else if Crc.crc (l.take 8++(l.drop 12).take (at4 l 0).toNat)≠at4 l 8 then (0,2)
 else (12+(at4 l 0).toNat,0)

theorem ne32 (a b:BitVec 32):((a.toNat:Int) != (b.toNat:Int))=decide (a≠b):=by
 by_cases h:a=b
 ·subst h;simp
 ·have:¬(a.toNat:Int)=(b.toNat:Int):=fun e=>h (BitVec.eq_of_toNat_eq (by omega))
  rw [decide_eq_true (show a≠b from h),bne_iff_ne]
  exact this

/-- a world that has one block more, whatever was drawn -/
theorem below_one {B:Nat} {w w':World} (h:Below B w w') (o:Obj) {w2:World} (hh:w2.heap=(w'.alloc o).heap) (ho:w2.os=w'.os) (ht:w2.tape=w'.tape) (hp:w2.output=w'.output) (hB:B≤w'.heap.size:=by omega):Below B w w2:=by
 have h2:=h.alloc hB o
 exact ⟨ho.trans h.os,ht.trans h.tape,hp.trans h.output,by rw [hh];exact h2.size,fun k hk=>by rw [hh];exact h2.block k hk⟩
theorem below_draws {B:Nat} {w w':World} (h:Below B w w') (n:Nat):Below B w (w'.drewN n):=⟨h.os,h.tape,h.output,h.size,h.block⟩
/-- what next answers in the end: the sum is not what it should be, or it is -/
def Res (r:Bool) (k:Nat) (e:Ending):Prop:=e = .returned (if r then .tuple #[.int .i64 0,.int .i64 2] else .tuple #[.int .i64 (12+(k:Int)),.int .i64 0])
set_option maxHeartbeats 1000000 in
theorem next_cap (b off n c k:Nat) (l:List UInt8) (nx x8 y:BitVec 32) (w:World) (hn:n≤70368744177664) (hnc:n≤c) (h12:12≤n) (hk:k≤20000) (hkn:12+k≤n) (hc:c=12)
  (HB:Hid (IsB w (some ⟨b,off,none⟩) n c l)) (HX:Hid (bits BinOp.xor IntKind.u32 IntKind.u32.max (k:Int)=(nx.toNat:Int)))
  (A0:Hid (∀w',IsB w' (some ⟨b,off,none⟩) n c l→Calls Try.prog 83 #[.slice (some ⟨b,off,none⟩) n c,.int .i64 0] w' fun e w''=>∃d,e = .returned (.int .u32 (k:Int))∧w''=w'.drewN d))
  (A4:Hid (∀w',IsB w' (some ⟨b,off,none⟩) n c l→Calls Try.prog 83 #[.slice (some ⟨b,off,none⟩) n c,.int .i64 4] w' fun e w''=>∃d,e = .returned (.int .u32 (nx.toNat:Int))∧w''=w'.drewN d))
  (A8:Hid (∀w',IsB w' (some ⟨b,off,none⟩) n c l→Calls Try.prog 83 #[.slice (some ⟨b,off,none⟩) n c,.int .i64 8] w' fun e w''=>∃d,e = .returned (.int .u32 (x8.toNat:Int))∧w''=w'.drewN d))
  (A2H:Hid (∀w',w'.heap=(w.alloc (.cells #[.slice (some ⟨b,off,none⟩) 8 c,.slice (some ⟨b,off,none⟩) 0 0] 29)).heap →
   Calls Try.prog 84 #[.slice (some ⟨w.heap.size,0,none⟩) 2 2] w' fun e w''=>e = .returned (.int .u32 (y.toNat:Int))∧w'=w'')) (r:Bool) (hcr:((y.toNat:Int) != (x8.toNat:Int))=r) :
  Calls Try.prog 73 #[.slice (some ⟨b,off,none⟩) n c] w fun e w'=>Res r k e∧Below w.heap.size w w':=by
 have hsg:¬(IntKind.u32.signed=true):=by decide
 have g1:((nx.toNat:Int) != (nx.toNat:Int))=false:=by simp
 have g2:(12:Int)≤(n:Int):=by omega
 have g3:(k:Int)≤20000:=by omega
 have g4:12+(k:Int)≤(n:Int):=by omega
 subst hc
 have q1:12+(k:Int)≤12:=by omega
 have q2:(12:Int)≤max (12+(k:Int)) 0:=by omega
 go_enter Try.func73,Try.ntmps73
 go_wp2_with fail
 refine (A0.out _ HB.out).mono ?_
 rintro e w1 ⟨d1,rfl,rfl⟩
 go_wp2_with fail
 refine (A4.out _ (by exact HB.out.heapw rfl)).mono ?_
 rintro e w1 ⟨d2,rfl,rfl⟩
 have hx:=HX.out
 go_wp2_with fail
 clear hx
 go_region_with (first
  | (go_at_call 83;refine (A8.out _ (by first | exact HB.out.heapw rfl | exact (HB.out.alloc _).heapw rfl)).mono ?_;rintro e w3 ⟨d3,rfl,rfl⟩)
  | (go_at_call 84;refine (A2H.out _ (by exact rfl)).mono ?_;rintro e w3 ⟨rfl,rfl⟩))
 all_goals cases r
 all_goals go_wp2_with fail
 all_goals go_ret2
 all_goals exact ⟨rfl,below_one (Below.refl _ _) _ rfl rfl rfl rfl⟩

set_option maxHeartbeats 1000000 in
theorem next_room (b off n c k:Nat) (l:List UInt8) (nx x8 y:BitVec 32) (w:World) (hn:n≤70368744177664) (hnc:n≤c) (h12:12≤n) (hk:k≤20000) (hkn:12+k≤n) (hc12:¬c=12)
  (HB:Hid (IsB w (some ⟨b,off,none⟩) n c l)) (HX:Hid (bits BinOp.xor IntKind.u32 IntKind.u32.max (k:Int)=(nx.toNat:Int)))
  (A0:Hid (∀w',IsB w' (some ⟨b,off,none⟩) n c l→Calls Try.prog 83 #[.slice (some ⟨b,off,none⟩) n c,.int .i64 0] w' fun e w''=>∃d,e = .returned (.int .u32 (k:Int))∧w''=w'.drewN d))
  (A4:Hid (∀w',IsB w' (some ⟨b,off,none⟩) n c l→Calls Try.prog 83 #[.slice (some ⟨b,off,none⟩) n c,.int .i64 4] w' fun e w''=>∃d,e = .returned (.int .u32 (nx.toNat:Int))∧w''=w'.drewN d))
  (A8:Hid (∀w',IsB w' (some ⟨b,off,none⟩) n c l→Calls Try.prog 83 #[.slice (some ⟨b,off,none⟩) n c,.int .i64 8] w' fun e w''=>∃d,e = .returned (.int .u32 (x8.toNat:Int))∧w''=w'.drewN d))
  (A2H:Hid (∀w',w'.heap=(w.alloc (.cells #[.slice (some ⟨b,off,none⟩) 8 c,.slice (some ⟨b,off+12,none⟩) k (c - 12)] 29)).heap →
   Calls Try.prog 84 #[.slice (some ⟨w.heap.size,0,none⟩) 2 2] w' fun e w''=>e = .returned (.int .u32 (y.toNat:Int))∧w'=w'')) (r:Bool) (hcr:((y.toNat:Int) != (x8.toNat:Int))=r) :
  Calls Try.prog 73 #[.slice (some ⟨b,off,none⟩) n c] w fun e w'=>Res r k e∧Below w.heap.size w w':=by
 have hsg:¬(IntKind.u32.signed=true):=by decide
 have g1:((nx.toNat:Int) != (nx.toNat:Int))=false:=by simp
 have g2:(12:Int)≤(n:Int):=by omega
 have g3:(k:Int)≤20000:=by omega
 have g4:12+(k:Int)≤(n:Int):=by omega
 go_enter Try.func73,Try.ntmps73
 go_wp2_with fail
 refine (A0.out _ HB.out).mono ?_
 rintro e w1 ⟨d1,rfl,rfl⟩
 go_wp2_with fail
 refine (A4.out _ (by exact HB.out.heapw rfl)).mono ?_
 rintro e w1 ⟨d2,rfl,rfl⟩
 have hx:=HX.out
 go_wp2_with fail
 clear hx
 go_region_with (first
  | (go_at_call 83;refine (A8.out _ (by first | exact HB.out.heapw rfl | exact (HB.out.alloc _).heapw rfl)).mono ?_;rintro e w3 ⟨d3,rfl,rfl⟩)
  | (go_at_call 84;refine (A2H.out _ (by exact rfl)).mono ?_;rintro e w3 ⟨rfl,rfl⟩))
 all_goals cases r
 all_goals go_wp2_with fail
 all_goals go_ret2
 all_goals exact ⟨rfl,below_one (Below.refl _ _) _ rfl rfl rfl rfl⟩

end Go.Proofs.Ytnicaicjgaoolaa.F
namespace Go.Proofs.Ytnicaicjgaoolaa.F
open Go.Proofs.Ytnicaicjgaoolaa
open Go.RowKit

set_option maxHeartbeats 1000000 in
theorem next_any (ao:Option Addr) (n c:Nat) (l:List UInt8) (w:World) (h:IsB w ao n c l) (hn:n≤70368744177664) (hnc:n≤c) :
  Calls Try.prog 73 #[.slice ao n c] w fun e w'=>e = .returned (.tuple #[.int .i64 ((nextF l).1:Int),.int .i64 ((nextF l).2:Int)])∧Below w.heap.size w w':=by
 have hlen:=h.len
 by_cases h1:n<12
 ·have hs:nextF l=(0,1):=by unfold nextF;rw [if_pos (by omega)]
  rw [hs]
  go_enter Try.func73,Try.ntmps73
  go_wp2_with fail
  go_ret2
  exact ⟨rfl,Below.refl _ _⟩
 obtain ⟨b,off,rfl⟩:∃b off,ao=some ⟨b,off,none⟩:=by
  rcases h.at_ with h0 | ⟨b,off,h0,_⟩
  ·omega
  ·exact ⟨b,off,h0⟩
 have HB:=Lib.hid h;clear h
 have HL:=Lib.hid hlen;clear hlen
 have hx:=not_walk (at4 l 0)
 have hne:=ne32 (at4 l 4) (~~~ (at4 l 0))
 have hnx:nextF l=if at4 l 4 ≠ ~~~ (at4 l 0)∨20000<(at4 l 0).toNat then (0,2)
   else if n<12+(at4 l 0).toNat then (0,1)
   else if Crc.crc (l.take 8++(l.drop 12).take (at4 l 0).toNat)≠at4 l 8 then (0,2)
   else (12+(at4 l 0).toNat,0):=by
  unfold nextF
  rw [HL.out,if_neg (by omega)]
 have ha0:=fun w' (hw:IsB w' (some ⟨b,off,none⟩) n c l)=>at_any _ n c l 0 w' hw hn (by omega)
 have ha4:=fun w' (hw:IsB w' (some ⟨b,off,none⟩) n c l)=>at_any _ n c l 4 w' hw hn (by omega)
 have ha8:=fun w' (hw:IsB w' (some ⟨b,off,none⟩) n c l)=>at_any _ n c l 8 w' hw hn (by omega)
 generalize at4 l 0=x0 at *
 generalize at4 l 4=x4 at *
 generalize at4 l 8=x8 at *
 have HX:=Lib.hid hx;clear hx
 have HNE:=Lib.hid hne;clear hne
 have A0:=Lib.hid ha0;clear ha0
 have A4:=Lib.hid ha4;clear ha4
 have A8:=Lib.hid ha8;clear ha8
 have hsg:¬(IntKind.u32.signed=true):=by decide
 by_cases e4:x4 = ~~~ x0
 ·have hne:=HNE.out
  rw [decide_eq_false (show ¬(x4 ≠ ~~~ x0) from fun h=>h e4)] at hne
  have g4:((x4.toNat:Int) != bits BinOp.xor IntKind.u32 IntKind.u32.max (x0.toNat:Int))=false:=by rw [HX.out];exact hne
  clear hne HNE
  by_cases g5:20000<x0.toNat
  ·rw [if_pos (.inr g5)] at hnx
   rw [hnx]
   clear hnx e4
   have g6:decide ((20000:Int)<(x0.toNat:Int))=true:=by simp;omega
   go_enter Try.func73,Try.ntmps73
   go_wp2_with fail
   refine (A0.out _ HB.out).mono ?_
   rintro e w1 ⟨d1,rfl,rfl⟩
   go_wp2_with fail
   refine (A4.out _ (by exact HB.out.heapw rfl)).mono ?_
   rintro e w1 ⟨d2,rfl,rfl⟩
   go_wp2_with fail
   go_ret2
   exact ⟨rfl,below_draws (Below.refl _ _) _⟩
  rw [if_neg (by simp only [not_or];exact ⟨fun h=>h e4,g5⟩)] at hnx
  by_cases g7:n<12+x0.toNat
  ·rw [if_pos g7] at hnx
   rw [hnx]
   clear hnx e4
   have g6:decide ((20000:Int)<(x0.toNat:Int))=false:=by simp;omega
   generalize x0.toNat=k at *
   go_enter Try.func73,Try.ntmps73
   go_wp2_with fail
   refine (A0.out _ HB.out).mono ?_
   rintro e w1 ⟨d1,rfl,rfl⟩
   go_wp2_with fail
   refine (A4.out _ (by exact HB.out.heapw rfl)).mono ?_
   rintro e w1 ⟨d2,rfl,rfl⟩
   go_wp2_with fail
   go_ret2
   exact ⟨rfl,below_draws (Below.refl _ _) _⟩
  rw [if_neg g7] at hnx
  subst e4
  clear g4
  generalize ~~~ x0=nx at HX A4
  generalize x0.toNat=k at *
  have A2:∀(a2:Option Addr) (n2 c2:Nat),IsB w a2 n2 c2 ((l.drop 12).take k)→n2≤140737488351232→∀w',w'.heap=(w.alloc (.cells #[.slice (some ⟨b,off,none⟩) 8 c,.slice a2 n2 c2] 29)).heap →
    Calls Try.prog 84 #[.slice (some ⟨w.heap.size,0,none⟩) 2 2] w' fun e w''=>e = .returned (.int .u32 ((Crc.crc (l.take 8++(l.drop 12).take k)).toNat:Int))∧w'=w'':=by
   intro a2 n2 c2 h2 hm2 w' hw'
   have h3:=two_cells w (some ⟨b,off,none⟩) 8 c (l.take 8) (isB_take HB.out 8 (by omega)) (by decide) a2 n2 c2 _ h2 hm2 29 (0,0) w.heap.size rfl
   have h4:=of_some 2 [l.take 8,(l.drop 12).take k] w.heap.size 0 2 w' rfl (by decide) (fun i hi=>by
    obtain ⟨a,n,c,q1,q2,q3⟩:=h3 i hi
    exact ⟨a,n,c,(World.cell?_of_block (by rw [hw'])).trans q1,q2.heapw hw',q3⟩)
   rw [show [l.take 8,(l.drop 12).take k].flatten=l.take 8++(l.drop 12).take k from by simp] at h4
   exact h4
  have hcr:=ne32 (Crc.crc (l.take 8++(l.drop 12).take k)) x8
  generalize Crc.crc (l.take 8++(l.drop 12).take k)=y at A2 hcr hnx
  have hfin:∀e:Ending,Res (decide (y≠x8)) k e→e = .returned (.tuple #[.int .i64 ((nextF l).1:Int),.int .i64 ((nextF l).2:Int)]):=by
   intro e he
   rw [hnx]
   unfold Res at he
   by_cases hy:y=x8
   ·rw [decide_eq_false (fun h=>h hy)] at he
    rw [if_neg (fun h=>h hy),he]
    simp
   ·rw [decide_eq_true hy] at he
    rw [if_pos hy,he]
    simp
  by_cases hc12:c=12
  ·have hz:IsB w (some ⟨b,off,none⟩) 0 0 ((l.drop 12).take k):=by
    obtain rfl:k=0:=by omega
    rw [List.take_zero];exact isB_zero 0
   exact (next_cap b off n c k l nx x8 y w hn hnc (by omega) (by omega) (by omega) hc12 HB HX A0 A4 A8 (Lib.hid (A2 _ _ _ hz (by omega))) _ hcr).mono fun e w' ⟨h1,h2⟩=>⟨hfin e h1,h2⟩
  ·have hz:IsB w (some ⟨b,off+12,none⟩) k (c - 12) ((l.drop 12).take k):=isB_take (isB_drop HB.out 12 (c - 12) (by omega)) k (by omega)
   exact (next_room b off n c k l nx x8 y w hn hnc (by omega) (by omega) (by omega) hc12 HB HX A0 A4 A8 (Lib.hid (A2 _ _ _ hz (by omega))) _ hcr).mono fun e w' ⟨h1,h2⟩=>⟨hfin e h1,h2⟩
 ·have hne:=HNE.out
  rw [decide_eq_true (show x4 ≠ ~~~ x0 from e4)] at hne
  have g4:((x4.toNat:Int) != bits BinOp.xor IntKind.u32 IntKind.u32.max (x0.toNat:Int))=true:=by rw [HX.out];exact hne
  rw [if_pos (.inl e4)] at hnx
  rw [hnx]
  clear hnx e4 hne HNE
  go_enter Try.func73,Try.ntmps73
  go_wp2_with fail
  refine (A0.out _ HB.out).mono ?_
  rintro e w1 ⟨d1,rfl,rfl⟩
  go_wp2_with fail
  refine (A4.out _ (by exact HB.out.heapw rfl)).mono ?_
  rintro e w1 ⟨d2,rfl,rfl⟩
  go_wp2_with fail
  go_ret2
  exact ⟨rfl,below_draws (Below.refl _ _) _⟩
end Go.Proofs.Ytnicaicjgaoolaa.F
namespace Go.Proofs.Ytnicaicjgaoolaa.F
open Go.Proofs.Ytnicaicjgaoolaa
open Go.RowKit

theorem info29:(Try.prog.info? 29).map (fun i=>(i.zero,i.size,i.bytes))=some (some (.slice none 0 0),1,24):=by kernel_rfl

/-- the records of frames from place k on, where the scan ended, and how -/
def scanF (B:List UInt8):Nat→Nat→List (List UInt8)→List (List UInt8)×Nat×Nat
 | 0,k,ls=>(ls,k,0)
 | t+1,k,ls =>
  if B.length≤k then (ls,k,0)
  else if (nextF (B.drop k)).2=0 then scanF B t (k+(nextF (B.drop k)).1) (ls++[((B.drop k).take (nextF (B.drop k)).1).drop 12])
  else (ls,k,(nextF (B.drop k)).2)

theorem nextF_size (l:List UInt8) (h:(nextF l).2=0):12≤(nextF l).1∧(nextF l).1≤l.length∧(nextF l).1≤20012:=by
 unfold nextF at h ⊢
 by_cases h1:l.length<12
 ·rw [if_pos h1] at h;cases h
 ·rw [if_neg h1] at h ⊢
  by_cases h2:at4 l 4 ≠ ~~~ (at4 l 0)∨20000<(at4 l 0).toNat
  ·rw [if_pos h2] at h;cases h
  ·rw [if_neg h2] at h ⊢
   by_cases h3:l.length<12+(at4 l 0).toNat
   ·rw [if_pos h3] at h;cases h
   ·rw [if_neg h3] at h ⊢
    by_cases h4:Crc.crc (l.take 8++(l.drop 12).take (at4 l 0).toNat)≠at4 l 8
    ·rw [if_pos h4] at h;cases h
    ·rw [if_neg h4]
     simp only
     omega
theorem scanF_end (B:List UInt8) (t k:Nat) (ls:List (List UInt8)) (h:B.length≤k):scanF B t k ls=(ls,k,0):=by
 cases t with
 | zero=>rfl
 | succ t=>show (if _ then _ else _)=_;rw [if_pos h]
/-- fuel enough is fuel enough -/
theorem scanF_fuel (B:List UInt8) (t s k:Nat) (ls:List (List UInt8)) (ht:B.length≤k+t) (hs:B.length≤k+s):scanF B t k ls=scanF B s k ls:=by
 induction t generalizing s k ls with
 | zero=>rw [scanF_end B 0 k ls (by omega),scanF_end B s k ls (by omega)]
 | succ t ih =>
  cases s with
  | zero=>rw [scanF_end B 0 k ls (by omega),scanF_end B _ k ls (by omega)]
  | succ s =>
   show (if _ then _ else if _ then _ else _)=(if _ then _ else if _ then _ else _)
   by_cases h1:B.length≤k
   ·rw [if_pos h1,if_pos h1]
   ·rw [if_neg h1,if_neg h1]
    by_cases h2:(nextF (B.drop k)).2=0
    ·rw [if_pos h2,if_pos h2]
     have:=(nextF_size _ h2).1
     exact ih s _ _ (by omega) (by omega)
    ·rw [if_neg h2,if_neg h2]
/-- all of it -/
def scanAll (B:List UInt8):List (List UInt8)×Nat×Nat:=scanF B B.length 0 []
theorem scanF_step (B:List UInt8) (k:Nat) (ls:List (List UInt8)) (h:k<B.length) (h0:(nextF (B.drop k)).2=0) :
  scanF B (B.length - k) k ls=scanF B (B.length - (k+(nextF (B.drop k)).1)) (k+(nextF (B.drop k)).1) (ls++[((B.drop k).take (nextF (B.drop k)).1).drop 12]):=by
 obtain ⟨t,ht⟩:∃t,B.length - k=t+1:=⟨B.length - k - 1,by omega⟩
 rw [ht]
 show (if _ then _ else if _ then _ else _)=_
 rw [if_neg (by omega),if_pos h0]
 have:=(nextF_size _ h0).1
 exact scanF_fuel B _ _ _ _ (by omega) (by omega)
theorem scanF_stop (B:List UInt8) (k:Nat) (ls:List (List UInt8)) (h:k<B.length) (h0:¬(nextF (B.drop k)).2=0):scanF B (B.length - k) k ls=(ls,k,(nextF (B.drop k)).2):=by
 obtain ⟨t,ht⟩:∃t,B.length - k=t+1:=⟨B.length - k - 1,by omega⟩
 rw [ht]
 show (if _ then _ else if _ then _ else _)=_
 rw [if_neg (by omega),if_neg h0]

/-- what was scanned lies there -/
def Recs (v:Value) (used how:Int) (e:Ending):Prop:=e = .returned (.tuple #[v,.int .i64 used,.int .i64 how])

end Go.Proofs.Ytnicaicjgaoolaa.F
namespace Go.Proofs.Ytnicaicjgaoolaa
open Go.RowKit Go.ChangeMaps Go.WideMaps Go.Maps
def logA:ByteArray:=⟨#[108,111,103]⟩
def baseA:ByteArray:=⟨#[98,97,115,101]⟩
/-- a name may be one -/
def GoodN (s:ByteArray):Prop:=(1≤s.size∧s.size≤20)∧∀(i:Nat) (h:i<s.size),33≤(s[i].toNat:Int)∧(s[i].toNat:Int)≤126
theorem good_log:GoodN logA:=⟨by decide,fun i hi=>by
 match i,hi with
 | 0,_=>exact ⟨show (33:Int)≤((108:UInt8).toNat:Int) by decide,show ((108:UInt8).toNat:Int)≤126 by decide⟩
 | 1,_=>exact ⟨show (33:Int)≤((111:UInt8).toNat:Int) by decide,show ((111:UInt8).toNat:Int)≤126 by decide⟩
 | 2,_=>exact ⟨show (33:Int)≤((103:UInt8).toNat:Int) by decide,show ((103:UInt8).toNat:Int)≤126 by decide⟩⟩
theorem good_base:GoodN baseA:=⟨by decide,fun i hi=>by
 match i,hi with
 | 0,_=>exact ⟨show (33:Int)≤((98:UInt8).toNat:Int) by decide,show ((98:UInt8).toNat:Int)≤126 by decide⟩
 | 1,_=>exact ⟨show (33:Int)≤((97:UInt8).toNat:Int) by decide,show ((97:UInt8).toNat:Int)≤126 by decide⟩
 | 2,_=>exact ⟨show (33:Int)≤((115:UInt8).toNat:Int) by decide,show ((115:UInt8).toNat:Int)≤126 by decide⟩
 | 3,_=>exact ⟨show (33:Int)≤((101:UInt8).toNat:Int) by decide,show ((101:UInt8).toNat:Int)≤126 by decide⟩⟩
set_option maxHeartbeats 400000 in
theorem good_any (s:ByteArray) (w:World) (h:GoodN s):Calls Try.prog 90 #[.string s] w fun e w'=>e = .returned (.bool true)∧w=w':=by
 obtain ⟨⟨h1,h2⟩,h3⟩:=h
 have H3:=Lib.hid h3
 have h1i:(1:Int)≤(s.size:Int):=by omega
 have h2i:(s.size:Int)≤20:=by omega
 clear h3
 go_enter Try.func90,Try.ntmps90
 go_wp2_with fail
 go_loop [6] (fun i=>∃k:Nat,k≤s.size∧i = .int .i64 (k:Int)) (fun i=>s.size - (intOf i).toNat)
 case atStart=>exact ⟨0,by omega,rfl⟩
 case round =>
  obtain ⟨k,hk,rfl⟩:=hrel
  by_cases hlt:k<s.size
  ·obtain ⟨g1,g2⟩:=H3.out k hlt
   have g3:decide ((s[k].toNat:Int)<33)=false:=decide_eq_false (by omega)
   have g4:decide (126<(s[k].toNat:Int))=false:=decide_eq_false (by omega)
   clear g1 g2
   go_wp2_with fail
   exact ⟨⟨k+1,by omega,by go_num⟩,by simp [intOf];omega⟩
  ·obtain rfl:k=s.size:=by omega
   go_wp2_with fail
   go_ret
   exact ⟨rfl,rfl⟩
end Go.Proofs.Ytnicaicjgaoolaa
namespace Go.Proofs.Ytnicaicjgaoolaa
open Go.RowKit Go.ChangeMaps Go.WideMaps Go.Maps
theorem keyed9:Keyed Try.prog 9:=string_keyed Try.underlying9
theorem keyOf_str (s:ByteArray) (hs:s.size≤20):∃kl,keyOf Try.prog 9 (.string s)=some kl:=by
 unfold keyOf
 have:s.size≤maxLen:=by unfold maxLen;omega
 simp [Try.underlying9,mapKey,this]
theorem zero84 (w:World):(zeroValue 84).run Try.prog w = .ok (.pointer none) w:=by kernel_rfl
theorem look_no {w:World} {mb c:Nat} (h:w.heap[mb]? = some (.map #[] c)) (s:ByteArray) (hs:s.size≤20) :
  (Instr.lookup 77 (.map (some mb)) (.string s) false).run Try.prog w = .ok (.pointer none) w:=by
 obtain ⟨kl,hkey⟩:=keyOf_str s hs
 rcases keyed9.find w hkey [] (by simp) with ⟨h1,_⟩ | ⟨j,e,_,h2,_⟩
 ·simp [Instr.lookup,run_underlying Try.underlying77,MapKept.run_getObj_map h,keyed9.check w _ hkey,h1,zero84,Result.andThen]
 ·simp at h2
theorem look_yes {w:World} {mb c b:Nat} {s:ByteArray} {p:Value} (h:w.heap[mb]? = some (.map #[⟨.string s,p,b⟩] c)) (hs:s.size≤20) :
  (Instr.lookup 77 (.map (some mb)) (.string s) false).run Try.prog w = .ok p w:=by
 obtain ⟨kl,hkey⟩:=keyOf_str s hs
 rcases keyed9.find w hkey [⟨.string s,p,b⟩] (fun e he=>by rw [List.mem_singleton.1 he];exact ⟨kl,hkey⟩) with ⟨_,h2⟩ | ⟨j,e,h1,h2,h3⟩
 ·exact absurd rfl (h2 ⟨.string s,p,b⟩ (by simp))
 ·have hj:j=0∧e=⟨.string s,p,b⟩:=by
   match j,h2 with
   | 0,h2=>simp at h2;exact ⟨rfl,h2.symm⟩
  obtain ⟨rfl,rfl⟩:=hj
  simp [Instr.lookup,run_underlying Try.underlying77,MapKept.run_getObj_map h,keyed9.check w _ hkey,h1,Result.andThen]
theorem look_other {w:World} {mb c b:Nat} {s t:ByteArray} {p:Value} (h:w.heap[mb]? = some (.map #[⟨.string s,p,b⟩] c)) (hs:s.size≤20) (ht:t.size≤20) (hst:s≠t) :
  (Instr.lookup 77 (.map (some mb)) (.string t) false).run Try.prog w = .ok (.pointer none) w:=by
 obtain ⟨kl,hkey⟩:=keyOf_str t ht
 obtain ⟨kl2,hkey2⟩:=keyOf_str s hs
 rcases keyed9.find w hkey [⟨.string s,p,b⟩] (fun e he=>by rw [List.mem_singleton.1 he];exact ⟨kl2,hkey2⟩) with ⟨h1,_⟩ | ⟨j,e,h1,h2,h3⟩
 ·simp [Instr.lookup,run_underlying Try.underlying77,MapKept.run_getObj_map h,keyed9.check w _ hkey,h1,zero84,Result.andThen]
 ·match j,h2 with
  | 0,h2 =>
   simp at h2
   rw [←h2] at h3
   simp at h3
   exact absurd h3 hst
theorem put_new {w:World} {mb c:Nat} (h:w.heap[mb]? = some (.map #[] c)) (s:ByteArray) (p:Value) (hs:s.size≤20) :
  (Instr.mapUpdate 77 (.map (some mb)) (.string s) p).run Try.prog w = .ok () (setBlock w mb (.map #[⟨.string s,p,c⟩] (c+1))):=by
 obtain ⟨kl,hkey⟩:=keyOf_str s hs
 have h1:(Instr.findKey 9 (.string s) (#[]:Array MapEntry).toList).run Try.prog w = .ok none w:=by
  rcases keyed9.find w hkey [] (by simp) with ⟨h1,_⟩ | ⟨j,e,_,h2,_⟩
  ·exact h1
  ·simp at h2
 simp [Instr.mapUpdate,run_underlying Try.underlying77,MapKept.run_getObj_map h,keyed9.check w _ hkey,h1,MapKept.run_setObj_map _ h,Result.andThen,setBlock]
end Go.Proofs.Ytnicaicjgaoolaa
namespace Go.Proofs.Ytnicaicjgaoolaa
open Go.RowKit Go.ChangeMaps Go.WideMaps Go.Maps
set_option maxRecDepth 20000
structure Dk where
 room:Int
 off:Bool
 lives:Int
 file:Option (List UInt8×Nat)
def Dk.total (s:Dk):Nat:=match s.file with | none=>0 | some (l,_)=>l.length
def IsFile (w:World) (D:List Nat) (mb:Nat):Option (List UInt8×Nat)→Prop
 | none=>∃c,w.heap[mb]? = some (.map #[] c)
 | some (l,safe)=>∃c fb b0 v,w.heap[mb]? = some (.map #[⟨.string logA,.pointer (some ⟨fb,0,none⟩),b0⟩] c)∧b0<c∧fb∈D∧w.heap[fb]? = some (.cells #[v,.int .i64 (safe:Int)] 86 (0,0))∧OwnB w 0 5 v l∧∀k,v.ownBlock=some k→k∈D
structure IsDk (w:World) (D:List Nat) (d:Nat) (s:Dk):Prop where
 ex:∃mb,w.heap[d]? = some (.cells #[.int .i64 s.room,.bool s.off,.int .i64 s.lives,.map (some mb)] 79 (0,0))∧mb∈D∧IsFile w D mb s.file
 mem:d∈D
 lt:∀b∈D,b<w.heap.size
/-- what a call may turn: blocks of D; what it has then: those, and new ones -/
structure Moves (D D':List Nat) (w w':World):Prop where
 only:Only D w w'
 gr:∀b∈D',b∈D∨w.heap.size≤b
 sub:∀b∈D,b∈D'
theorem Moves.refl (D:List Nat) (w:World):Moves D D w w:=⟨Only.refl _ _,fun b h=>.inl h,fun b h=>h⟩
theorem Moves.trans {D D' D'':List Nat} {w w' w'':World} (h:Moves D D' w w') (k:Moves D' D'' w' w''):Moves D D'' w w'' :=
 ⟨⟨k.only.os.trans h.only.os,k.only.tape.trans h.only.tape,k.only.output.trans h.only.output,Nat.le_trans h.only.size k.only.size,fun i hi hs=>by
  refine (k.only.block i (Nat.lt_of_lt_of_le hi h.only.size) (fun hm=>?_)).trans (h.only.block i hi hs)
  rcases h.gr i hm with h1 | h1
  ·exact hs h1
  ·omega⟩,fun b hb=>by
  rcases k.gr b hb with h1 | h1
  ·exact h.gr b h1
  ·exact .inr (Nat.le_trans h.only.size h1),fun b hb=>k.sub b (h.sub b hb)⟩
theorem Moves.of_only {D:List Nat} {w w':World} (h:Only D w w'):Moves D D w w':=⟨h,fun b h=>.inl h,fun b h=>h⟩
theorem Moves.of_below {D:List Nat} {w w':World} (h:Below w.heap.size w w'):Moves D D w w':=Moves.of_only (Only.ofBelow h D)
theorem heap_below3 {w w':World} {B j:Nat} {o:Obj} (hb:Below B w w') (hj:j<B) (h:w.heap[j]? = some o):w'.heap[j]? = some o:=(hb.block j hj).trans h
theorem isB_avoid {w w':World} {S:List Nat} {ao:Option Addr} {n c:Nat} {l:List UInt8} (h:IsB w ao n c l) (ho:Only S w w') (hS:∀b off (i:Nat),ao=some ⟨b,off,none⟩∧i<n→b∉S):IsB w' ao n c l:=by
 obtain ⟨h1,h2,h3⟩:=h
 refine ⟨h1,h2,?_⟩
 rcases h3 with h3 | ⟨b,off,h4,h5⟩
 ·exact .inl h3
 ·refine .inr ⟨b,off,h4,fun i hi=>?_⟩
  have hc:=h5 i hi
  have hlt:b<w.heap.size:=by
   unfold World.cell? at hc
   simp only at hc
   cases hq:w.heap[b]? with
   | none=>rw [hq] at hc;simp at hc
   | some o=>exact lt_of_heap hq
  rw [World.cell?_of_block (ho.block b hlt (hS b off i ⟨h4,hi⟩))]
  exact hc
theorem isB_notmap {w:World} {b off i n c:Nat} {ao:Option Addr} {l:List UInt8} {es:Array MapEntry} {q:Nat} (h:IsB w ao n c l) (hb:ao=some ⟨b,off,none⟩∧i<n) (hm:w.heap[b]? = some (.map es q)):False:=by
 obtain ⟨rfl,hi⟩:=hb
 rcases h.at_ with h3 | ⟨b',off',h4,h5⟩
 ·omega
 ·cases h4
  have hc:=h5 i hi
  unfold World.cell? at hc
  simp [hm] at hc
theorem rows_only0 {w w':World} {base:Nat} {e:TypeId} {k:Nat} {v:Value} {n:Nat} {xs:List Value} {S:List Nat} (h:w.ownsRow base e k v n xs) (ho:Only S w w') (hs:∀b,v.ownBlock=some b→b∉S):w'.ownsRow base e k v n xs:=by
 refine ⟨h.1,?_⟩
 rcases h.2 with h2 | ⟨g,cap,cur,rfl,hg,hh,r⟩
 ·exact .inl h2
 ·exact .inr ⟨g,cap,cur,rfl,hg,ho.keeps hh (hs g rfl),r⟩
theorem IsFile.keep {w w':World} {D S:List Nat} {mb:Nat} {f:Option (List UInt8×Nat)} (h:IsFile w D mb f) (ho:Only S w w') (hm:mb∈D) (hS:∀b∈D,b∉S):IsFile w' D mb f:=by
 cases f with
 | none =>
  obtain ⟨c,h1⟩:=h
  exact ⟨c,ho.keeps h1 (hS _ hm)⟩
 | some p =>
  obtain ⟨l,safe⟩:=p
  obtain ⟨c,fb,b0,v,h1,h2,h3,h4,h5,h6⟩:=h
  exact ⟨c,fb,b0,v,ho.keeps h1 (hS _ hm),h2,h3,ho.keeps h4 (hS _ h3),rows_only0 h5 ho (fun b hb=>hS _ (h6 b hb)),h6⟩
theorem IsDk.keep {w w':World} {D S:List Nat} {d:Nat} {s:Dk} (h:IsDk w D d s) (ho:Only S w w') (hS:∀b∈D,b∉S):IsDk w' D d s:=by
 obtain ⟨⟨mb,h1,h2,h3⟩,h4,h5⟩:=h
 exact ⟨⟨mb,ho.keeps h1 (hS _ h4),h2,h3.keep ho h2 hS⟩,h4,fun b hb=>Nat.lt_of_lt_of_le (h5 b hb) ho.size⟩
theorem IsDk.below {w w':World} {D:List Nat} {d:Nat} {s:Dk} (h:IsDk w D d s) (hb:Below w.heap.size w w'):IsDk w' D d s:=h.keep (Only.ofBelow hb []) (fun b _=>by simp)
section
variable {w:World} {D:List Nat} {d:Nat} {s:Dk}
theorem power_any (h:IsDk w D d s):Calls Try.prog 32 #[.pointer (some ⟨d,0,none⟩)] w fun e w'=>e = .returned (.bool (!s.off))∧w=w':=by
 obtain ⟨⟨mb,h1,_⟩,_⟩:=h
 have hc:w.cell? ⟨d,1,none⟩=some (.bool s.off):=by rw [cell_heap h1];rfl
 clear h1
 go_enter Try.func32,Try.ntmps32
 go_wp2_with fail
 go_ret
 exact ⟨rfl,rfl⟩
theorem lives_any (h:IsDk w D d s):Calls Try.prog 33 #[.pointer (some ⟨d,0,none⟩)] w fun e w'=>e = .returned (.int .i64 s.lives)∧w=w':=by
 obtain ⟨⟨mb,h1,_⟩,_⟩:=h
 have hc:w.cell? ⟨d,2,none⟩=some (.int .i64 s.lives):=by rw [cell_heap h1];rfl
 clear h1
 go_enter Try.func33,Try.ntmps33
 go_wp2_with fail
 go_ret
 exact ⟨rfl,rfl⟩
theorem may_off (h:IsDk w D d s) (ho:s.off=true) (ao:Option Addr) (n c:Nat):Calls Try.prog 85 #[.pointer (some ⟨d,0,none⟩),.slice ao n c] w fun e w'=>e = .returned (.int .i64 10)∧w=w':=by
 obtain ⟨⟨mb,h1,_⟩,_⟩:=h
 have hc:w.cell? ⟨d,1,none⟩=some (.bool true):=by rw [cell_heap h1,ho];rfl
 clear h1
 go_enter Try.func85,Try.ntmps85
 go_wp2_with fail
 go_ret
 exact ⟨rfl,rfl⟩
theorem may_on (h:IsDk w D d s) (ho:s.off=false) (H:Nat) (t:ByteArray) (hH:w.cell? ⟨H,0,none⟩=some (.string t)) (ht:GoodN t):Calls Try.prog 85 #[.pointer (some ⟨d,0,none⟩),.slice (some ⟨H,0,none⟩) 1 1] w fun e w'=>e = .returned (.int .i64 0)∧w=w':=by
 obtain ⟨⟨mb,h1,_⟩,_⟩:=h
 have hc:w.cell? ⟨d,1,none⟩=some (.bool false):=by rw [cell_heap h1,ho];rfl
 have HG:=Lib.hid (good_any t w ht)
 clear h1
 go_enter Try.func85,Try.ntmps85
 go_wp2_with fail
 go_loopw [6,13] (fun _ i wr=>wr=w∧∃k:Nat,k≤1∧i = .int .i64 (k:Int)) (fun _ i _=>1 - (intOf i).toNat)
 case atStart=>exact ⟨rfl,0,by omega,rfl⟩
 case round =>
  obtain ⟨rfl,k,hk,rfl⟩:=hrel
  by_cases h0:k=0
  ·subst h0
   go_wp2_with fail
   refine HG.out.mono ?_
   rintro e w1 ⟨rfl,rfl⟩
   go_wp2_with fail
   go_roundw
   case rel=>exact ⟨trivial,1,by omega,rfl⟩
   case measure=>simp [intOf]
  ·obtain rfl:k=1:=by omega
   go_wp2_with fail
   go_ret
   exact ⟨rfl,rfl⟩
theorem find_off (h:IsDk w D d s) (ho:s.off=true) (t:ByteArray):Calls Try.prog 74 #[.pointer (some ⟨d,0,none⟩),.string t] w fun e w'=>e = .returned (.tuple #[.pointer none,.int .i64 10])∧Below w.heap.size w w':=by
 have hb:Below w.heap.size w (w.alloc (.cells #[.string t] 9)):=(Below.refl _ _).alloc (Nat.le_refl _) _
 have HM:=Lib.hid (fun ao n c=>may_off (h.below hb) ho ao n c)
 have HB:=Lib.hid hb
 clear h hb
 go_enter Try.func74,Try.ntmps74
 go_wp2_with fail
 refine (HM.out _ _ _).mono ?_
 rintro e w1 ⟨rfl,rfl⟩
 go_wp2_with fail
 go_ret2
 exact ⟨rfl,HB.out⟩
/-- no such file -/
theorem find_none {mb:Nat} (h:IsDk w D d s) (ho:s.off=false) (t:ByteArray) (ht:GoodN t) (h1:w.cell? ⟨d,3,none⟩=some (.map (some mb))) (hl:∀w',Below w.heap.size w w'→(Instr.lookup 77 (.map (some mb)) (.string t) false).run Try.prog w' = .ok (.pointer none) w') :
  Calls Try.prog 74 #[.pointer (some ⟨d,0,none⟩),.string t] w fun e w'=>e = .returned (.tuple #[.pointer none,.int .i64 4])∧Below w.heap.size w w':=by
 have hb:Below w.heap.size w (w.alloc (.cells #[.string t] 9)):=(Below.refl _ _).alloc (Nat.le_refl _) _
 have HM:=Lib.hid (may_on (h.below hb) ho w.heap.size t (by rw [cell_heap (heap_new _ _)];rfl) ht)
 have HB:=Lib.hid hb
 have hl1:=hl _ hb
 have h3:=cell_later hb h1
 clear h hb hl h1
 go_enter Try.func74,Try.ntmps74
 go_wp2_with fail
 refine HM.out.mono ?_
 rintro e w1 ⟨rfl,rfl⟩
 go_wp2_with fail
 go_ret2
 exact ⟨rfl,HB.out⟩
theorem find_some {mb fb:Nat} (h:IsDk w D d s) (ho:s.off=false) (t:ByteArray) (ht:GoodN t) (h1:w.cell? ⟨d,3,none⟩=some (.map (some mb))) (hl:∀w',Below w.heap.size w w'→(Instr.lookup 77 (.map (some mb)) (.string t) false).run Try.prog w' = .ok (.pointer (some ⟨fb,0,none⟩)) w') :
  Calls Try.prog 74 #[.pointer (some ⟨d,0,none⟩),.string t] w fun e w'=>e = .returned (.tuple #[.pointer (some ⟨fb,0,none⟩),.int .i64 0])∧Below w.heap.size w w':=by
 have hb:Below w.heap.size w (w.alloc (.cells #[.string t] 9)):=(Below.refl _ _).alloc (Nat.le_refl _) _
 have HM:=Lib.hid (may_on (h.below hb) ho w.heap.size t (by rw [cell_heap (heap_new _ _)];rfl) ht)
 have HB:=Lib.hid hb
 have hl1:=hl _ hb
 have h3:=cell_later hb h1
 clear h hb hl h1
 go_enter Try.func74,Try.ntmps74
 go_wp2_with fail
 refine HM.out.mono ?_
 rintro e w1 ⟨rfl,rfl⟩
 go_wp2_with fail
 go_ret2
 exact ⟨rfl,HB.out⟩
end
end Go.Proofs.Ytnicaicjgaoolaa
