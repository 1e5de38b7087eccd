/-
  What the proof of the law leans on: contracts of the program's functions, one behind another. No condition.
-/
import Derived.Deep.Strs
import Derived.Test.YtnicaicjgaoolaaT17
import Derived.Test.YtnicaicjgaoolaaT11
import Derived.Test.YtnicaicjgaoolaaT4
import Derived.Test.YtnicaicjgaoolaaT1
import Derived.Test.YtnicaicjgaoolaaT14
set_option linter.unusedVariables false
set_option linter.unusedSimpArgs false
namespace Go.Proofs.Ytnicaicjgaoolaa
set_option maxRecDepth 20000
/-- how many whole frames there are in so many bytes -/
def jOf:List (List UInt8)→Nat→Nat
 | [],_=>0
 | r::l,len=>if 12+r.length≤len then jOf l (len - (12+r.length))+1 else 0
theorem torn_take (recs:List (List UInt8)):∀len,len≤(F.frames recs).length→∃r q,(F.frames recs).take len=F.frames (recs.take (jOf recs len))++(F.frameF r).take q∧q<12+r.length∧(r=[]∨r∈recs):=by
 induction recs with
 | nil =>
  intro len h
  refine ⟨[],0,?_,by simp,.inl rfl⟩
  simp [F.frames,jOf]
 | cons a l ih =>
  intro len h
  rw [F.frames_cons,List.length_append,F.frameF_len] at h
  unfold jOf
  by_cases hl:12+a.length≤len
  ·rw [if_pos hl]
   obtain ⟨r,q,h1,h2,h3⟩:=ih (len - (12+a.length)) (by omega)
   refine ⟨r,q,?_,h2,h3.imp id (List.mem_cons_of_mem _)⟩
   rw [F.frames_cons,List.take_succ_cons,F.frames_cons,List.append_assoc,←h1,List.take_append,F.frameF_len,List.take_of_length_le (by rw [F.frameF_len];exact hl)]
  ·rw [if_neg hl]
   refine ⟨a,len,?_,by omega,.inr List.mem_cons_self⟩
   rw [F.frames_cons,List.take_append_of_le_length (by rw [F.frameF_len];omega)]
   simp [F.frames]
def noteD (b:List UInt8):Note:=if b.length=24 then .t (val8 (b.drop 8)) (val8 (b.drop 16)) else .e (val8 (b.drop 8)).toNat ⟨val8 (b.drop 16),b.drop 32⟩
theorem noteD_t (a c:Int) (h1 : -9223372036854775808≤a) (h2:a≤9223372036854775807) (h3 : -9223372036854775808≤c) (h4:c≤9223372036854775807):noteD (noteT a c) = .t a c:=by
 unfold noteD
 rw [if_pos (noteT_len a c),noteT_parts]
 have e1:(be8 1++(be8 a++(be8 c++[]))).drop 8=be8 a++(be8 c++[]):=List.drop_left' (be8_len 1)
 have e2:(be8 1++(be8 a++(be8 c++[]))).drop 16=be8 c++[]:=by
  rw [show 16=8+8 from rfl,←List.drop_drop,e1];exact List.drop_left' (be8_len a)
 rw [e1,e2,val8_be8 a _ h1 h2,val8_be8 c _ h3 h4]
theorem noteD_e (p:Nat) (x:Ent) (h1:p≤1000000000) (h2 : -9223372036854775808≤x.term) (h3:x.term≤9223372036854775807):noteD (noteE p x) = .e p x:=by
 unfold noteD
 rw [if_neg (by rw [noteE_len];omega)]
 have hp:noteE p x=be8 2++(be8 (p:Int)++(be8 x.term++(be8 (x.bs.length:Int)++x.bs))):=by
  unfold noteE be8s;simp [List.append_assoc]
 rw [hp]
 have e1:(be8 2++(be8 (p:Int)++(be8 x.term++(be8 (x.bs.length:Int)++x.bs)))).drop 8=be8 (p:Int)++(be8 x.term++(be8 (x.bs.length:Int)++x.bs)):=List.drop_left' (be8_len 2)
 have e2:(be8 2++(be8 (p:Int)++(be8 x.term++(be8 (x.bs.length:Int)++x.bs)))).drop 16=be8 x.term++(be8 (x.bs.length:Int)++x.bs):=by
  rw [show 16=8+8 from rfl,←List.drop_drop,e1];exact List.drop_left' (be8_len _)
 have e3:(be8 2++(be8 (p:Int)++(be8 x.term++(be8 (x.bs.length:Int)++x.bs)))).drop 32=x.bs:=by
  rw [show 32=16+(8+8) from rfl,←List.drop_drop,e2,←List.drop_drop,List.drop_left' (be8_len x.term)];exact List.drop_left' (be8_len _)
 rw [e1,e2,e3,val8_be8 (p:Int) _ (by omega) (by omega),val8_be8 x.term _ h2 h3,Int.toNat_natCast]
/-- replay looks at term, choice, log and n alone -/
theorem replay_like (a b:Rp) (h1:a.n=b.n) (h2:a.term=b.term) (h3:a.choice=b.choice) (h4:a.log=b.log) (l:List Note):(replay a l).term=(replay b l).term∧(replay a l).choice=(replay b l).choice∧(replay a l).log=(replay b l).log∧(replayOk a l↔replayOk b l):=by
 induction l generalizing a b with
 | nil=>exact ⟨h2,h3,h4,Iff.rfl⟩
 | cons x l ih =>
  have hk:noteOk a x↔noteOk b x:=by
   cases x with
   | t u v=>simp only [noteOk];rw [h2,h1]
   | e p y=>simp only [noteOk];rw [h4,h2]
  have hn:(noteA a x).n=(noteA b x).n∧(noteA a x).term=(noteA b x).term∧(noteA a x).choice=(noteA b x).choice∧(noteA a x).log=(noteA b x).log:=by
   cases x with
   | t u v=>exact ⟨h1,rfl,rfl,h4⟩
   | e p y=>exact ⟨h1,h2,h3,by simp only [noteA];rw [h4]⟩
  obtain ⟨r1,r2,r3,r4⟩:=ih (noteA a x) (noteA b x) hn.1 hn.2.1 hn.2.2.1 hn.2.2.2
  refine ⟨r1,r2,r3,?_⟩
  simp only [replayOk]
  rw [hk,r4]
theorem replay_noteD (s:Rp) (l:List Note) (h:replayOk s l) (hl:s.log.length+l.length≤1000000000) (h0:0≤s.term) (hM:s.term≤1099511627776) (hn:s.n≤5):(l.map Note.bytes).map noteD=l:=by
 induction l generalizing s with
 | nil=>rfl
 | cons a l ih =>
  obtain ⟨h1,h2⟩:=h
  simp only [List.length_cons] at hl
  have hlog:(noteA s a).log.length≤s.log.length+1:=by
   cases a with
   | t u v=>simp [noteA]
   | e p y=>simp [noteA];omega
  have hterm:0≤(noteA s a).term:=by
   cases a with
   | t u v=>exact Int.le_trans h0 h1.1
   | e p y=>exact h0
  have hnn:(noteA s a).n≤5:=by
   cases a with
   | t u v=>exact hn
   | e p y=>exact hn
  have hMM:(noteA s a).term≤1099511627776:=by
   cases a with
   | t u v=>exact h1.2.1
   | e p y=>exact hM
  have e:=ih (noteA s a) h2 (by omega) hterm hMM hnn
  simp only [List.map_cons,e]
  congr 1
  cases a with
  | t u v =>
   obtain ⟨k1,k2,k3,k4⟩:=h1
   exact noteD_t u v (by omega) (by omega) (by omega) (by omega)
  | e p y =>
   obtain ⟨k1,k2,k3,k4⟩:=h1
   exact noteD_e p y (by omega) (by omega) (by omega)
/-- a node that is up -/
structure UpI (s:Rp) (k:Dk):Prop where
 wf:Wf s k
 nok:NOk s
 sf:SfOk k
 off:k.off=false
/-- a node whose power went: of its notes some bytes stand -/
structure DnI (s:Rp) (k:Dk):Prop where
 fil:filB k=(F.frames s.wl.recs).take (filB k).length
 len:(filB k).length≤(F.frames s.wl.recs).length
 sf:SfOk k
 room:k.room≤1048576
 tot:(k.total:Int)≤k.room
 nok:NOk s
 n1:1≤s.n
 n5:s.n≤5
 own:s.own<s.n
 off:k.off=true
theorem crash_filB (k:Dk) (keep:Int):∃m,m≤(filB k).length∧filB (crashD k keep)=(filB k).take m∧(SfOk k→SfOk (crashD k keep)):=by
 unfold crashD crashF filB SfOk
 cases hk:k.file with
 | none=>exact ⟨0,by simp,by simp,fun _ l q hf=>by cases hf⟩
 | some p =>
  obtain ⟨l,q⟩:=p
  refine ⟨min (stays l q keep) l.length,by simp;omega,?_,fun h l2 q2 hf=>?_⟩
  ·simp only
   rw [←List.take_take,List.take_of_length_le (Nat.le_refl _)]
  ·simp only [Option.some.injEq,Prod.mk.injEq] at hf
   obtain ⟨rfl,rfl⟩:=hf
   have:=stays_le (l:=l) (k:=q) keep (h l q rfl)
   rw [List.length_take];omega
theorem UpI.crash {s:Rp} {k:Dk} (h:UpI s k) (keep:Int):DnI s (crashD k keep):=by
 obtain ⟨m,h1,h2,h3⟩:=crash_filB k keep
 have hf:=h.wf.fil
 have hl:(filB (crashD k keep)).length=m:=by rw [h2,List.length_take];omega
 refine ⟨by rw [hl,h2,hf],by rw [hl,←hf];exact h1,h3 h.sf,h.wf.room,?_,h.nok,h.wf.n1,h.wf.n5,h.wf.own,rfl⟩
 have:=h.wf.tot
 rw [total_filB] at this ⊢
 rw [hl]
 show (m:Int)≤k.room
 omega
theorem DnI.crash {s:Rp} {k:Dk} (h:DnI s k) (keep:Int):DnI s (crashD k keep):=by
 obtain ⟨m,h1,h2,h3⟩:=crash_filB k keep
 have hl:(filB (crashD k keep)).length=m:=by rw [h2,List.length_take];omega
 refine ⟨?_,by rw [hl];exact Nat.le_trans h1 h.len,h3 h.sf,h.room,?_,h.nok,h.n1,h.n5,h.own,rfl⟩
 ·rw [hl,h2]
  rw [h.fil,List.take_take,Nat.min_eq_left h1]
 ·have:=h.tot
  rw [total_filB] at this ⊢
  rw [hl]
  show (m:Int)≤k.room
  omega
/-- the disk when power comes back -/
def onD (k:Dk):Dk:={ k with off:=false,lives:=k.lives+1 }
def backR (s:Rp) (k:Dk):List (List UInt8):=s.wl.recs.take (jOf s.wl.recs (filB k).length)
def backS (i n:Nat) (s:Rp) (k:Dk):Rp:=replay (rpNew i n (k.lives+1) (backR s k)) ((backR s k).map noteD)
def backK (s:Rp) (k:Dk):Dk:=cleanD (onD k) (backR s k)
theorem note_len (s:Rp) (l:List Note) (h:replayOk s l):∀x∈l.map Note.bytes,x.length≤20000:=by
 induction l generalizing s with
 | nil=>intro x hx;cases hx
 | cons a l ih =>
  intro x hx
  obtain ⟨h1,h2⟩:=h
  rw [List.map_cons] at hx
  rcases List.mem_cons.1 hx with rfl | hx
  ·cases a with
   | t u v=>show (noteT u v).length≤_;rw [noteT_len];omega
   | e p y=>show (noteE p y).length≤_;rw [noteE_len];have:=h1.2.2.2;omega
  ·exact ih _ h2 x hx
theorem back_ok {s:Rp} {k:Dk} (h:DnI s k):Torn (onD k) (backR s k)∧(∀x∈backR s k,x.length≤20000)∧(onD k).total≤1048576∧∃ns,backR s k=ns.map Note.bytes∧(backR s k).map noteD=ns∧replayOk (rp00 s.n) ns∧ns.length≤100000:=by
 obtain ⟨ns,g1,g2,_⟩:=h.nok.ex
 have ht:(filB k).length≤1048576:=by
  have h1:=h.tot;have h2:=h.room
  rw [total_filB] at h1;omega
 obtain ⟨r,q,t1,t2,t3⟩:=torn_take s.wl.recs (filB k).length h.len
 have hb:backR s k=(ns.take (jOf s.wl.recs (filB k).length)).map Note.bytes:=by
  unfold backR;rw [g1,List.map_take]
 have hk:=replayOk_take _ _ g2 (jOf s.wl.recs (filB k).length)
 have hlen:∀x∈backR s k,x.length≤20000:=by rw [hb];exact note_len _ _ hk
 have hfb:filB k=F.frames (backR s k)++(F.frameF r).take q:=by rw [h.fil];exact t1
 have hns:(ns.take (jOf s.wl.recs (filB k).length)).length≤100000:=by
  have h1:=frames_many (backR s k)
  have h2:(F.frames (backR s k)).length≤(filB k).length:=by rw [hfb,List.length_append];omega
  have h3:(backR s k).length=(ns.take (jOf s.wl.recs (filB k).length)).length:=by rw [hb,List.length_map]
  omega
 refine ⟨⟨?_⟩,hlen,by rw [total_filB];exact ht,_,hb,?_,hk,hns⟩
 ·cases hf:k.file with
  | none =>
   refine .inl ⟨hf,?_⟩
   have:filB k=[]:=by unfold filB;rw [hf]
   rw [this] at hfb
   have h0:(F.frames (backR s k)).length=0:=by
    have:=congrArg List.length hfb
    rw [List.length_append] at this
    simp at this
    omega
   have h1:=frames_many (backR s k)
   exact List.length_eq_zero_iff.1 (by omega)
  | some p =>
   obtain ⟨l,sf⟩:=p
   have hl:filB k=l:=by unfold filB;rw [hf]
   rw [hl] at hfb
   have hr:r.length≤20000:=by
    rcases t3 with rfl | hm
    ·simp
    ·rw [g1] at hm;exact note_len _ _ g2 r hm
   exact .inr ⟨sf,r,q,by show k.file=_;rw [hf,←hfb],hr,t2,by rw [←hfb];exact h.sf l sf hf⟩
 ·rw [hb]
  exact replay_noteD (rp00 s.n) _ hk (by show 0+_≤_;omega) (Int.le_refl _) (by show (0:Int)≤_;decide) h.n5
theorem replay_bounds (s:Rp) (l:List Note) (h:replayOk s l) (h1 : -1≤s.choice) (h2:s.choice<s.n) (h3:∀x∈s.log,x.bs.length≤8000) : -1≤(replay s l).choice∧(replay s l).choice<s.n∧∀x∈(replay s l).log,x.bs.length≤8000:=by
 induction l generalizing s with
 | nil=>exact ⟨h1,h2,h3⟩
 | cons a l ih =>
  obtain ⟨k1,k2⟩:=h
  cases a with
  | t u v=>exact ih (noteA s (.t u v)) k2 k1.2.2.1 k1.2.2.2 h3
  | e p y=>exact ih (noteA s (.e p y)) k2 h1 h2 (fun x hx=>by
   rcases List.mem_append.1 hx with hx | hx
   ·exact h3 x (List.mem_of_mem_take hx)
   ·rw [List.mem_singleton.1 hx];exact k1.2.2.2)
theorem back_up {s:Rp} {k:Dk} (h:DnI s k):UpI (backS s.own s.n s k) (backK s k)∧(backS s.own s.n s k).own=s.own∧(backS s.own s.n s k).n=s.n∧(backS s.own s.n s k).clock=0:=by
 obtain ⟨ht,hr,htot,ns,hb,hd,hk,hns⟩:=back_ok h
 have e0:backS s.own s.n s k=replay (rpNew s.own s.n (k.lives+1) (backR s k)) ns:=by unfold backS;rw [hd]
 have hlike:=replay_like (rpNew s.own s.n (k.lives+1) (backR s k)) (rp00 s.n) rfl rfl rfl rfl ns
 have hk2:=hlike.2.2.2.2 hk
 have hbnd:=replay_bounds (rpNew s.own s.n (k.lives+1) (backR s k)) ns hk2 (by show (-1:Int) ≤ -1;omega) (by show (-1:Int)<(s.n:Int);omega) (fun x hx=>by cases hx)
 have htm:=replay_terms (rpNew s.own s.n (k.lives+1) (backR s k)) ns hk2
 have hlen:=replay_len (rpNew s.own s.n (k.lives+1) (backR s k)) ns
 obtain ⟨t,c,g,e⟩:=replay_same (rpNew s.own s.n (k.lives+1) (backR s k)) ns
 rw [e] at hbnd htm hlen hlike
 have hrl:(backR s k).length=ns.length:=by rw [hb,List.length_map]
 have hfil:filB (backK s k)=F.frames (backR s k):=by
  unfold backK cleanD
  rcases ht.ex with ⟨hf,hn⟩ | ⟨sf,r,q,hf,_⟩
  ·rw [hf];simp only;rw [hn];unfold filB;rw [hf];rfl
  ·rw [hf];rfl
 have hroom:(backK s k).room=k.room:=by unfold backK cleanD;split<;>rfl
 have hoff:(backK s k).off=false:=by unfold backK cleanD;split<;>rfl
 have hfl:(F.frames (backR s k)).length≤(filB k).length:=by
  rcases ht.ex with ⟨hf,hn⟩ | ⟨sf,r,q,hf,_⟩
  ·rw [hn];simp [F.frames]
  ·have:filB k=F.frames (backR s k)++(F.frameF r).take q:=by
    have hf2:k.file=some (F.frames (backR s k)++(F.frameF r).take q,sf):=hf
    unfold filB;rw [hf2]
   rw [this,List.length_append];omega
 have hsf:SfOk (backK s k):=by
  intro l q hf
  unfold backK cleanD at hf
  split at hf
  ·rename_i hn
   rw [hn] at hf;cases hf
  ·simp only [Option.some.injEq,Prod.mk.injEq] at hf
   obtain ⟨rfl,rfl⟩:=hf
   exact Nat.min_le_right _ _
 rw [e0,e]
 refine ⟨⟨⟨h.n1,h.n5,h.own,by simp [rpNew],by simp [rpNew],by simp [rpNew],by simp [rpNew],by rw [hroom];exact h.room,?_,hfil,?_,Nat.zero_le _,rfl,(fun hl=>by cases hl),htm.1,htm.2 (by show (0:Int)≤_;decide),hbnd.1,hbnd.2.1,hbnd.2.2,Nat.le_refl _,fun x hx=>?_⟩,⟨⟨ns,hb,hk,fun _=>⟨hlike.1.symm,hlike.2.1.symm,hlike.2.2.1.symm⟩⟩,(fun hl=>by cases hl)⟩,hsf,hoff⟩,rfl,rfl,rfl⟩
 ·have:=h.tot
  rw [total_filB] at this ⊢
  rw [hroom,hfil];omega
 ·show g.length≤(backR s k).length
  rw [hrl]
  have:g.length≤0+ns.length:=hlen
  omega
 ·have:x∈List.replicate s.n ((0:Int),(0:Int),(0:Int)):=hx
  rw [List.eq_of_mem_replicate this]
  exact ⟨Int.le_refl _,by show (0:Int)≤_;simp⟩
end Go.Proofs.Ytnicaicjgaoolaa
namespace Go.Proofs.Ytnicaicjgaoolaa
open Go.RowKit
set_option maxRecDepth 20000
structure Ac where
 op:Int
 N:Int
 K:Int
 P:Int
 B:List UInt8
def ac0:Ac:=⟨0,0,0,0,[]⟩
instance:Inhabited Ac:=⟨ac0⟩
theorem lit_sc {z:Int} (h:(Lit.int .i64 z).wf=true) : -9223372036854775808≤z∧z≤9223372036854775807:=by
 simp only [Lit.wf,IntKind.min,IntKind.max,IntKind.signed,IntKind.bits,Bool.and_eq_true,decide_eq_true_eq,if_true] at h
 omega
/-- an act in five cells -/
structure AtAc (w:World) (b off:Nat) (x:Ac):Prop where
 c0:w.cell? ⟨b,off,none⟩=some (.int .i64 x.op)
 c1:w.cell? ⟨b,off+1,none⟩=some (.int .i64 x.N)
 c2:w.cell? ⟨b,off+2,none⟩=some (.int .i64 x.K)
 c3:w.cell? ⟨b,off+3,none⟩=some (.int .i64 x.P)
 c4:∃bo bc,w.cell? ⟨b,off+4,none⟩=some (.slice bo x.B.length bc)∧IsB w bo x.B.length bc x.B∧x.B.length≤bc
 p1 : -9223372036854775808≤x.P∧x.P≤9223372036854775807
 n1 : -9223372036854775808≤x.N∧x.N≤9223372036854775807
/-- a slice of acts that reads as l -/
structure IsAx (w:World) (ao:Option Addr) (n:Nat) (l:List Ac):Prop where
 len:l.length=n
 at_:n=0∨∃b off,ao=some ⟨b,off,none⟩∧∀i,i<n→AtAc w b (off+i*5) (l.getD i ac0)
section
variable {H:Type} {enc:TypeId×Value→H}
open Go.ChangeShapes Go.WideShapes Go.ChangeAt
theorem k31:Try.prog.cellsOf 31=5:=by kernel_rfl
theorem open_ax {W:World} {base:Nat} {v:Value} {d:DataW H} {ps:List MemPlace} (hv:Value.okWide Try.prog W .any base 22 v) (h:DataW.Trod enc Try.prog W 0 (fun _=>true) true 22 v d ps)
  (hsz:(DataW.weights Try.prog 22 d).all (· ≤ reachBytes)=true):∃ao n c l,v = .slice ao n c∧IsAx W ao n l∧n≤c∧n≤140737488355328:=by
 obtain ⟨a,n,c,rfl⟩:=okWide_slice Try.underlying22 hv
 obtain ⟨fuel,hf⟩:=h
 have k3:Try.prog.cellsOf 3=1:=by kernel_rfl
 have k29:Try.prog.cellsOf 29=1:=by kernel_rfl
 have kb:Try.prog.bytesOf 31=56:=by kernel_rfl
 rcases Deep.open_slice Try.underlying22 hf with ⟨hcs,hx⟩ | ⟨ad,n',c',m,k,D,Pl,hcs,_,hle,_,hm,hx,hcell⟩
 ·simp [Value.cells] at hcs
  obtain ⟨rfl,rfl,rfl⟩:=hcs
  exact ⟨_,_,_,[],rfl,⟨rfl,.inl rfl⟩,Nat.le_refl _,Nat.zero_le _⟩
 ·simp [Value.cells] at hcs
  obtain ⟨rfl,rfl,rfl⟩:=hcs
  obtain rfl:m=c:=by simpa using hm
  rw [k31] at hcell
  obtain ⟨rfl,rfl⟩:=Prod.mk.inj hx
  simp only [DataW.weights,Try.underlying22,List.all_cons,List.all_append,Bool.and_eq_true] at hsz
  obtain ⟨hs1,hs2,_⟩:=hsz
  have hnb:n≤140737488355328:=by
   rw [kb] at hs1
   simp [reachBytes] at hs1
   omega
  have hw:∀i,i<n→(DataW.weights Try.prog 31 (D i)).all (· ≤ reachBytes)=true:=fun i hi=>weights_elem hs2 (List.mem_map.2 ⟨i,List.mem_range.2 hi,rfl⟩)
  have hex:∀i,i<n→∃x:Ac,∃bo bc,W.cell? (ad.add (i*5))=some (.int .i64 x.op)∧W.cell? ((ad.add (i*5)).add 1)=some (.int .i64 x.N)∧W.cell? ((ad.add (i*5)).add 2)=some (.int .i64 x.K)∧W.cell? ((ad.add (i*5)).add 3)=some (.int .i64 x.P)∧W.cell? ((ad.add (i*5)).add 4)=some (.slice bo x.B.length bc)∧IsB W bo x.B.length bc x.B∧x.B.length≤bc∧(-9223372036854775808≤x.P∧x.P≤9223372036854775807)∧(-9223372036854775808≤x.N∧x.N≤9223372036854775807):=by
   intro i hi
   obtain ⟨cs,hcs1,htr⟩:=hcell i (by omega)
   obtain ⟨_,hlen,hget⟩:=World.cells?_some hcs1
   obtain ⟨xs,q,_,hx,_,hlen2,hf⟩:=DataW.trod_struct Try.underlying31 htr
   obtain ⟨c0,c1,c2,c3,c4,rfl⟩:∃c0 c1 c2 c3 c4,cs=[c0,c1,c2,c3,c4]:=by
    match cs,hlen with
    | [c0,c1,c2,c3,c4],_=>exact ⟨c0,c1,c2,c3,c4,rfl⟩
   obtain ⟨y0,y1,y2,y3,y4,rfl⟩:∃y0 y1 y2 y3 y4,xs=[y0,y1,y2,y3,y4]:=by
    match xs,hlen2 with
    | [y0,y1,y2,y3,y4],_=>exact ⟨y0,y1,y2,y3,y4,rfl⟩
   have f0:DataW.trod enc Try.prog W 0 (fun _=>true) true q 3 [c0]=some y0:=by simpa [k3] using hf 0 _ rfl
   have f1:DataW.trod enc Try.prog W 0 (fun _=>true) true q 3 [c1]=some y1:=by simpa [k3] using hf 1 _ rfl
   have f2:DataW.trod enc Try.prog W 0 (fun _=>true) true q 3 [c2]=some y2:=by simpa [k3] using hf 2 _ rfl
   have f3:DataW.trod enc Try.prog W 0 (fun _=>true) true q 3 [c3]=some y3:=by simpa [k3] using hf 3 _ rfl
   have f4:DataW.trod enc Try.prog W 0 (fun _=>true) true q 29 [c4]=some y4:=by simpa [k29] using hf 4 _ rfl
   have hd:=hw i hi
   rw [show D i = .agg [y0.1,y1.1,y2.1,y3.1,y4.1] from (Prod.mk.inj hx).1] at hd
   have hwe:(DataW.weightsEach Try.prog [3,3,3,3,29] [y0.1,y1.1,y2.1,y3.1,y4.1]).all (· ≤ reachBytes)=true:=by
    simp only [DataW.weights,Try.underlying31] at hd
    exact hd
   have hw4:=weights_arg hwe (j:=4) (t:=29) (d:=y4.1) rfl rfl
   obtain ⟨z0,e0,_,_⟩:=DataW.trod_int Try.underlying3 f0
   obtain ⟨z1,e1,_,w1⟩:=DataW.trod_int Try.underlying3 f1
   obtain ⟨z2,e2,_,_⟩:=DataW.trod_int Try.underlying3 f2
   obtain ⟨z3,e3,_,w3⟩:=DataW.trod_int Try.underlying3 f3
   obtain ⟨bo,bn,bc,bl,e4,i4,hle4,_⟩:=open_bytes_cells Try.underlying29 Try.underlying5 (by kernel_rfl) (by kernel_rfl) f4 hw4
   simp only [List.cons.injEq,and_true] at e0 e1 e2 e3 e4
   subst e0 e1 e2 e3 e4
   have hq:=i4.len
   subst hq
   refine ⟨⟨z0,z1,z2,z3,bl⟩,bo,bc,?_,?_,?_,?_,?_,i4,hle4,lit_sc w3,lit_sc w1⟩
   ·have:=hget 0 (by omega)
    simpa [Addr.add] using this
   ·rw [hget 1 (by omega)];rfl
   ·rw [hget 2 (by omega)];rfl
   ·rw [hget 3 (by omega)];rfl
   ·rw [hget 4 (by omega)];rfl
  obtain ⟨L,hL⟩:=Deep.choose_lt hex
  refine ⟨some ad,n,m,(List.range n).map L,rfl,⟨by simp,?_⟩,hle,hnb⟩
  by_cases h0:n=0
  ·exact .inl h0
  ·right
   obtain ⟨b,off,spot⟩:=ad
   have hspot:spot=none:=by
    obtain ⟨_,_,h1,_⟩:=hL 0 (by omega)
    simpa [Addr.add] using World.cell?_spot h1
   subst hspot
   refine ⟨b,off,rfl,fun i hi=>?_⟩
   obtain ⟨bo,bc,g0,g1,g2,g3,g4,g5,g6,g7,g8⟩:=hL i hi
   simp only [Addr.add_lit] at g0 g1 g2 g3 g4
   have hgd:((List.range n).map L).getD i ac0=L i:=by simp [List.getD_eq_getElem?_getD,hi]
   rw [hgd]
   exact ⟨g0,g1,g2,g3,⟨bo,bc,g4,g5,g6⟩,g7,g8⟩
end
end Go.Proofs.Ytnicaicjgaoolaa
namespace Go.Proofs.Ytnicaicjgaoolaa
open Go.RowKit Go.ChangeMaps Go.WideMaps Go.Maps
set_option maxRecDepth 20000
/-- append with room, of a row that begins anywhere in its block -/
theorem run_append_room_off {P:Program} (w:World) (t ty e:TypeId) (i:TypeInfo) (ht:P.underlying t=some (.slice e)) (hi:P.info? e=some i)
  (g off sLen sCap:Nat) (cur:Array Value) (hg:w.heap[g]? = some (.cells cur e (0,0)))
  (a:Addr) (m c:Nat) (news:List Value) (hl:news.length=m*i.size) (hnews:∀j u,news[j]? = some u→w.cell? (a.add j)=some u) (h1:∀u∈news,u.oneCell'=true)
  (hroom:sLen+m≤sCap) (hfit:off+sLen*i.size+news.length≤cur.size) :
  (Builtin.append_ #[t,t] ty #[.slice (some ⟨g,off,none⟩) sLen sCap,.slice (some a) m c]).run P w =
   .ok (.slice (some ⟨g,off,none⟩) (sLen+m) sCap) (w.setRow g (cur.toList.take (off+sLen*i.size)++news++cur.toList.drop (off+sLen*i.size+news.length)).toArray):=by
 have hf:=run_firstCells_some (P:=P) w i.size m a m c news hl hnews
 have hst:=run_storeCells_at P g (off+sLen*i.size) e news 0 cur w hg (by simpa using hfit) h1
 simp only [Nat.add_zero] at hst
 simp [Builtin.append_,run_underlying ht,sizeOf,typeInfo,hi,Builtin.lenOf,hroom,hf,Addr.add_lit,hst]
structure QAt (w:World) (A:List Nat) (cur:Array Value) (i:Nat) (m:Msg):Prop where
 ex:∃v u,cur[i*5]? = some (.int .i64 m.frm)∧cur[i*5+1]? = some (.int .i64 m.dst)∧cur[i*5+2]? = some (.int .i64 m.kind)∧cur[i*5+3]? = some v∧cur[i*5+4]? = some u∧IsMsg w A m v u
/-- messages in a row of the law's own, from some place on -/
def IsQ (w:World) (A Y:List Nat) (v:Value) (ms:List Msg):Prop :=
 (v = .slice none 0 0∧ms=[])∨∃g off c cur,v = .slice (some ⟨g,off*5,none⟩) ms.length c∧ms.length≤c∧c≤9223372036854775807∧g∈Y∧w.heap[g]? = some (.cells cur 51 (0,0))∧(off+c)*5≤cur.size∧∀i,(h:i<ms.length)→QAt w A cur (off+i) ms[i]
section
variable {w w':World} {A A' Y Y':List Nat} {v:Value} {ms:List Msg}
theorem QAt.step {cur:Array Value} {i:Nat} {m:Msg} {S:List Nat} (h:QAt w A cur i m) (ho:Only S w w') (hS:∀b∈S,b∈A) (he:Ext A A' w):QAt w' A' cur i m:=by
 obtain ⟨v,u,h1,h2,h3,h4,h5,h6⟩:=h
 exact ⟨v,u,h1,h2,h3,h4,h5,h6.step ho hS he⟩
theorem IsQ.keep {S:List Nat} (h:IsQ w A Y v ms) (ho:Only S w w') (hS:∀b∈S,b∈A) (hd:∀b∈Y,∀cur,w.heap[b]? = some (.cells cur 51 (0,0))→b∉S) (he:Ext A A' w) (hY:∀b∈Y,b∈Y'):IsQ w' A' Y' v ms:=by
 rcases h with h | ⟨g,off,c,cur,h1,h2,h3,h4,h5,h6,h7⟩
 ·exact .inl h
 ·exact .inr ⟨g,off,c,cur,h1,h2,h3,hY g h4,ho.keeps h5 (hd g h4 cur h5),h6,fun i hi=>(h7 i hi).step ho hS he⟩
theorem IsQ.shape (h:IsQ w A Y v ms):∃ao c,v = .slice ao ms.length c∧ms.length≤c∧c≤9223372036854775807∧(ao=none→c=0)∧∀p,ao=some p→∃g off,p=⟨g,off,none⟩:=by
 rcases h with ⟨rfl,rfl⟩ | ⟨g,off,c,cur,h1,h2,h3,_⟩
 ·exact ⟨none,0,rfl,Nat.le_refl _,by decide,fun _=>rfl,(fun p hp=>by cases hp)⟩
 ·exact ⟨_,c,h1,h2,h3,(fun e=>by cases e),(fun p hp=>by cases hp;exact ⟨g,off*5,rfl⟩)⟩
/-- the first one is taken away -/
theorem IsQ.tail {m:Msg} {p:Addr} {n c:Nat} (h:IsQ w A Y (.slice (some p) n c) (m::ms)):IsQ w A Y (.slice (some (if c=1 then p else p.add 5)) (n - 1) (c - 1)) ms:=by
 rcases h with ⟨h,_⟩ | ⟨g,off,c',cur,h1,h2,h3,h4,h5,h6,h7⟩
 ·cases h
 ·simp only [Value.slice.injEq,List.length_cons] at h1 h2
  obtain ⟨e1,rfl,rfl⟩:=h1
  cases e1
  by_cases hc:c=1
  ·subst hc
   have hm:ms=[]:=List.length_eq_zero_iff.1 (by omega)
   subst hm
   exact .inr ⟨g,off,0,cur,rfl,Nat.le_refl _,by omega,h4,h5,by omega,fun i hi=>by cases hi⟩
  ·rw [if_neg hc]
   refine .inr ⟨g,off+1,c - 1,cur,?_,by omega,by omega,h4,h5,by omega,fun i hi=>?_⟩
   ·simp only [Nat.add_sub_cancel]
    rw [Addr.add_lit]
    congr 3
    omega
   ·have:=h7 (i+1) (by simp;omega)
    simp only [List.getElem_cons_succ] at this
    rw [show off+1+i=off+(i+1) by omega]
    exact this
/-- what an append of one gives -/
structure QP (w w':World) (A Y:List Nat) (v':Value) (ms:List Msg):Prop where
 ex:∃A' Y',IsQ w' A' Y' v' ms∧Mv A A' Y Y' w w'∧(∀b∈A',b<w'.heap.size)∧(∀b∈Y',b∈A')∧(∀b∈Y',b∈Y∨(w.heap.size≤b∧∃cur,w'.heap[b]? = some (.cells cur 51 (0,0))))∧∃T,Only T w w'∧∀b∈T,b∈Y∧∃cur,w.heap[b]? = some (.cells cur 51 (0,0))
theorem msg_ones {m:Msg} {mv mu:Value} (h:IsMsg w A m mv mu):∀y∈[Value.int .i64 m.frm,.int .i64 m.dst,.int .i64 m.kind,mv,mu],y.oneCell'=true:=by
 intro y hy
 simp only [List.mem_cons,List.not_mem_nil,or_false] at hy
 rcases hy with rfl | rfl | rfl | rfl | rfl
 ·rfl
 ·rfl
 ·rfl
 ·exact h.one.1
 ·exact h.one.2
/-- a new block holds them -/
theorem QP.fresh {n cap:Nat} {cells:List Value} {ms':List Msg} (hYA:∀b∈Y,b∈A) (hA:∀b∈A,b<w.heap.size) (rest:Array Value) (hn:n=ms'.length) (hcap:n≤cap) (hc9:cap≤9223372036854775807) (hsz:cap*5≤cells.length+rest.size)
  (hq:∀i,(h:i<ms'.length)→∃v u,cells[i*5]? = some (.int .i64 ms'[i].frm)∧cells[i*5+1]? = some (.int .i64 ms'[i].dst)∧cells[i*5+2]? = some (.int .i64 ms'[i].kind)∧cells[i*5+3]? = some v∧cells[i*5+4]? = some u∧IsMsg w A ms'[i] v u) :
  QP w (w.drew.alloc (.cells (cells.toArray++rest) 51)) A Y (.slice (some ⟨w.heap.size,0,none⟩) n cap) ms':=by
 have hb:Below w.heap.size w (w.drew.alloc (.cells (cells.toArray++rest) 51)):=(below_drewN w 1).alloc (Nat.le_refl _) _
 have hnew:(w.drew.alloc (.cells (cells.toArray++rest) 51)).heap[w.heap.size]? = some (.cells (cells.toArray++rest) 51 (0,0)):=heap_new w.drew _
 have hext:Ext A (A++[w.heap.size]) w:=fun b hb=>by
  rcases List.mem_append.1 hb with h | h
  ·exact .inl h
  ·exact .inr (by rw [List.mem_singleton.1 h];exact Nat.le_refl _)
 refine ⟨A++[w.heap.size],Y++[w.heap.size],.inr ⟨w.heap.size,0,cap,_,by rw [Nat.zero_mul,hn],by omega,hc9,by simp,hnew,by simp;omega,fun i hi=>?_⟩,⟨⟨Only.ofBelow hb Y,fun b hb=>?_,fun b hb=>List.mem_append_left _ hb⟩,hext,fun b hb=>List.mem_append_left _ hb⟩,fun b hb=>?_,fun b hb=>?_,fun b hb=>?_,[],Only.ofBelow hb [],(fun b hb=>by cases hb)⟩
 ·obtain ⟨v,u,h1,h2,h3,h4,h5,h6⟩:=hq i hi
  have hg:∀{j:Nat} {x:Value},cells[j]? = some x→(cells.toArray++rest)[j]? = some x:=fun {j x} hj=>by
   have hlt:=(List.getElem?_eq_some_iff.1 hj).1
   rw [Array.getElem?_append_left (by simpa using hlt)]
   simpa using hj
  rw [Nat.zero_add]
  exact ⟨v,u,hg h1,hg h2,hg h3,hg h4,hg h5,h6.step (Only.ofBelow hb []) (fun b hb=>by cases hb) hext⟩
 ·rcases List.mem_append.1 hb with h | h
  ·exact .inl h
  ·exact .inr (by rw [List.mem_singleton.1 h];exact Nat.le_refl _)
 ·rcases List.mem_append.1 hb with h | h
  ·exact Nat.lt_of_lt_of_le (hA b h) (by simp)
  ·rw [List.mem_singleton.1 h];simp
 ·rcases List.mem_append.1 hb with h | h
  ·exact List.mem_append_left _ (hYA b h)
  ·exact List.mem_append_right _ h
 ·rcases List.mem_append.1 hb with h | h
  ·exact .inl h
  ·rw [List.mem_singleton.1 h]
   exact .inr ⟨Nat.le_refl _,_,hnew⟩
theorem append_q (h:IsQ w A Y v ms) (hYA:∀b∈Y,b∈A) (hA:∀b∈A,b<w.heap.size) {H:Nat} {m:Msg} {mv mu:Value} (hH:w.heap[H]? = some (.cells #[.int .i64 m.frm,.int .i64 m.dst,.int .i64 m.kind,mv,mu] 51 (0,0))) (hm:IsMsg w A m mv mu) (hb:ms.length≤1000000) (ty:TypeId) :
  ∃v' w',(Builtin.append_ #[35,35] ty #[v,.slice (some ⟨H,0,none⟩) 1 1]).run Try.prog w = .ok v' w'∧QP w w' A Y v' (ms++[m]):=by
 obtain ⟨i0,hi0,hz0,hz1,hz2⟩:=info_parts info51
 have hnews:∀j x,([Value.int .i64 m.frm,.int .i64 m.dst,.int .i64 m.kind,mv,mu]:List Value)[j]? = some x→w.cell? ((⟨H,0,none⟩:Addr).add j)=some x:=by
  intro j x hj
  rw [Addr.add_lit,Nat.zero_add,cell_heap hH]
  match j,hj with
  | 0,hj=>simpa using hj
  | 1,hj=>simpa using hj
  | 2,hj=>simpa using hj
  | 3,hj=>simpa using hj
  | 4,hj=>simpa using hj
  | j+5,hj=>simp at hj
 rcases h with ⟨rfl,rfl⟩ | ⟨g,off,c,cur,rfl,h2,h3,h4,h5,h6,h7⟩
 ·have hr:=run_append_nil (P:=Try.prog) (w:=w) 35 ty 51 i0 (.agg #[.int .i64 0,.int .i64 0,.int .i64 0,.slice none 0 0,.slice none 0 0]) Try.underlying35 hi0 hz0 ⟨H,0,none⟩ 1 1 [.int .i64 m.frm,.int .i64 m.dst,.int .i64 m.kind,mv,mu] (by rw [hz1];rfl) hnews (by omega) (by omega) (by rw [hz2];omega)
  refine ⟨_,_,hr,QP.fresh hYA hA _ rfl (by simpa using grownCap_ge w 1 0 51) (Nat.le_trans (grownCap_le_maxLen w 1 0 51 (by unfold maxLen;omega)) (by unfold maxLen;omega)) ?_ (fun i hi=>?_)⟩
  ·rw [size_zeroCells]
   have:=grownCap_ge w 1 0 51
   simp [Value.cells];omega
  ·obtain rfl:i=0:=by simp at hi;omega
   exact ⟨mv,mu,rfl,rfl,rfl,rfl,rfl,hm⟩
 ·have hcells:∀j x,((cur.toList.drop (off*5)).take (ms.length*5))[j]? = some x→cur[off*5+j]? = some x:=fun j x hj=>by
   rw [List.getElem?_take] at hj
   split at hj
   ·rw [List.getElem?_drop,Array.getElem?_toList] at hj;exact hj
   ·cases hj
  have hcur:∀{j:Nat} {x:Value},j<ms.length*5→cur[off*5+j]? = some x→((cur.toList.drop (off*5)).take (ms.length*5))[j]? = some x:=fun {j x} hj hx=>by
   rw [List.getElem?_take,if_pos hj,List.getElem?_drop,Array.getElem?_toList];exact hx
  have hlo:((cur.toList.drop (off*5)).take (ms.length*5)).length=ms.length*5:=by
   simp only [List.length_take,List.length_drop,Array.length_toList];omega
  by_cases hroom:ms.length+1≤c
  ·have hr:=run_append_room_off (P:=Try.prog) w 35 ty 51 i0 Try.underlying35 hi0 g (off*5) ms.length c cur h5 ⟨H,0,none⟩ 1 1 [.int .i64 m.frm,.int .i64 m.dst,.int .i64 m.kind,mv,mu] (by rw [hz1];rfl) hnews (msg_ones hm) hroom (by rw [hz1];simp;omega)
   rw [hz1] at hr
   refine ⟨_,_,hr,⟨A,Y,.inr ⟨g,off,c,_,by simp,by simpa using hroom,h3,h4,setRow_heap _ _ _ _ _ _ h5,by simp;omega,fun i hi=>?_⟩,Mv.only (setRow_only _ _ _) (fun b hb=>by rw [List.mem_singleton.1 hb];exact h4),fun b hb=>by simpa using hA b hb,hYA,fun b hb=>.inl hb,[g],setRow_only _ _ _,fun b hb=>by rw [List.mem_singleton.1 hb];exact ⟨h4,cur,h5⟩⟩⟩
   have hst:Only [g] w (w.setRow g (cur.toList.take (off*5+ms.length*5)++[.int .i64 m.frm,.int .i64 m.dst,.int .i64 m.kind,mv,mu]++cur.toList.drop (off*5+ms.length*5+([.int .i64 m.frm,.int .i64 m.dst,.int .i64 m.kind,mv,mu]:List Value).length)).toArray):=setRow_only _ _ _
   have hgA:∀b∈[g],b∈A:=fun b hb=>by rw [List.mem_singleton.1 hb];exact hYA g h4
   by_cases hlt:i<ms.length
   ·have e:(ms++[m])[i]=ms[i]:=by simp [List.getElem_append_left,hlt]
    rw [e]
    obtain ⟨v,u,k1,k2,k3,k4,k5,k6⟩:=h7 i hlt
    have hg:∀{j:Nat} {x:Value},j<off*5+ms.length*5→cur[j]? = some x→(cur.toList.take (off*5+ms.length*5)++[.int .i64 m.frm,.int .i64 m.dst,.int .i64 m.kind,mv,mu]++cur.toList.drop (off*5+ms.length*5+([.int .i64 m.frm,.int .i64 m.dst,.int .i64 m.kind,mv,mu]:List Value).length)).toArray[j]? = some x:=fun {j x} hj hx=>by
     have hl:(cur.toList.take (off*5+ms.length*5)).length=off*5+ms.length*5:=by simp only [List.length_take,Array.length_toList];omega
     rw [List.getElem?_toArray,List.append_assoc,List.getElem?_append_left (by rw [hl];exact hj),List.getElem?_take,if_pos hj,Array.getElem?_toList]
     exact hx
    exact ⟨v,u,hg (by omega) k1,hg (by omega) k2,hg (by omega) k3,hg (by omega) k4,hg (by omega) k5,k6.step hst hgA (Ext.refl _ _)⟩
   ·obtain rfl:i=ms.length:=by simp at hi;omega
    have e:(ms++[m])[ms.length]=m:=by simp
    rw [e]
    have hg:∀(j:Nat),j<5→(cur.toList.take (off*5+ms.length*5)++[.int .i64 m.frm,.int .i64 m.dst,.int .i64 m.kind,mv,mu]++cur.toList.drop (off*5+ms.length*5+([.int .i64 m.frm,.int .i64 m.dst,.int .i64 m.kind,mv,mu]:List Value).length)).toArray[(off+ms.length)*5+j]? = ([Value.int .i64 m.frm,.int .i64 m.dst,.int .i64 m.kind,mv,mu]:List Value)[j]? := fun j hj=>by
     have hl:(cur.toList.take (off*5+ms.length*5)).length=off*5+ms.length*5:=by simp only [List.length_take,Array.length_toList];omega
     rw [List.getElem?_toArray,List.append_assoc,List.getElem?_append_right (by rw [hl];omega),hl,show (off+ms.length)*5+j - (off*5+ms.length*5)=j by omega,List.getElem?_append_left (by simpa using hj)]
    exact ⟨mv,mu,hg 0 (by omega),hg 1 (by omega),hg 2 (by omega),hg 3 (by omega),hg 4 (by omega),hm.step hst hgA (Ext.refl _ _)⟩
  ·have hc:c=ms.length:=by omega
   subst hc
   have hr:=run_append_grow (P:=Try.prog) (w:=w) 35 ty 51 i0 (.agg #[.int .i64 0,.int .i64 0,.int .i64 0,.slice none 0 0,.slice none 0 0]) Try.underlying35 hi0 hz0 ⟨g,off*5,none⟩ ms.length ms.length ((cur.toList.drop (off*5)).take (ms.length*5)) (by rw [hz1];exact hlo)
    (fun j x hj=>by rw [Addr.add_lit,cell_heap h5];exact hcells j x hj) ⟨H,0,none⟩ 1 1 [.int .i64 m.frm,.int .i64 m.dst,.int .i64 m.kind,mv,mu] (by rw [hz1];rfl) hnews (by omega) (by omega) (growslice_fits (by omega) (by rw [hz2];omega))
   have eT:((cur.toList.drop (off*5)).take (ms.length*5)).toArray++([.int .i64 m.frm,.int .i64 m.dst,.int .i64 m.kind,mv,mu]:List Value).toArray=((cur.toList.drop (off*5)).take (ms.length*5)++[.int .i64 m.frm,.int .i64 m.dst,.int .i64 m.kind,mv,mu]).toArray:=by
    apply Array.ext';simp
   rw [eT] at hr
   refine ⟨_,_,hr,QP.fresh (ms':=ms++[m]) hYA hA _ (by rw [List.length_append];rfl) (grownCap_ge w (ms.length+1) ms.length 51) (Nat.le_trans (grownCap_le_maxLen w (ms.length+1) ms.length 51 (by unfold maxLen;omega)) (by unfold maxLen;omega)) ?_ (fun i hi=>?_)⟩
   ·rw [size_zeroCells,List.length_append,hlo]
    have:=grownCap_ge w (ms.length+1) ms.length 51
    simp [Value.cells];omega
   ·by_cases hlt:i<ms.length
    ·have e:(ms++[m])[i]=ms[i]:=by simp [List.getElem_append_left,hlt]
     rw [e]
     obtain ⟨v,u,k1,k2,k3,k4,k5,k6⟩:=h7 i hlt
     have hg:∀{j:Nat} {x:Value},j<ms.length*5→cur[off*5+j]? = some x→((cur.toList.drop (off*5)).take (ms.length*5)++[.int .i64 m.frm,.int .i64 m.dst,.int .i64 m.kind,mv,mu])[j]? = some x:=fun {j x} hj hx=>by
      rw [List.getElem?_append_left (by rw [hlo];exact hj)]
      exact hcur hj hx
     have q:(off+i)*5=off*5+i*5:=by omega
     rw [q] at k1 k2 k3 k4 k5
     exact ⟨v,u,hg (by omega) k1,hg (by omega) k2,hg (by omega) k3,hg (by omega) k4,hg (by omega) k5,k6⟩
    ·obtain rfl:i=ms.length:=by simp at hi;omega
     have e:(ms++[m])[ms.length]=m:=by simp
     rw [e]
     have hg:∀(j:Nat),j<5→((cur.toList.drop (off*5)).take (ms.length*5)++[.int .i64 m.frm,.int .i64 m.dst,.int .i64 m.kind,mv,mu])[ms.length*5+j]? = ([Value.int .i64 m.frm,.int .i64 m.dst,.int .i64 m.kind,mv,mu]:List Value)[j]? := fun j hj=>by
      rw [List.getElem?_append_right (by rw [hlo];omega),hlo,show ms.length*5+j - ms.length*5=j by omega]
     exact ⟨mv,mu,hg 0 (by omega),hg 1 (by omega),hg 2 (by omega),hg 3 (by omega),hg 4 (by omega),hm⟩
theorem wpList_append_q {ops:Array Oper} {rest:List Oper} {o:Oper} {a:Act} {Q:Exit→Act→World→Prop} (hgd:o.guard=none) (sx x:Operand)
  (ho:o.op = .call { callee:=.builtin .append,args:=#[sx,x],argTypes:=#[35,35]})
  (h:IsQ w A Y v ms) (hYA:∀b∈Y,b∈A) (hA:∀b∈A,b<w.heap.size) {H:Nat} {m:Msg} {mv mu:Value} (hH:w.heap[H]? = some (.cells #[.int .i64 m.frm,.int .i64 m.dst,.int .i64 m.kind,mv,mu] 51 (0,0))) (hm:IsMsg w A m mv mu) (hb:ms.length≤1000000)
  (hs:a.eval sx=v) (hx:a.eval x = .slice (some ⟨H,0,none⟩) 1 1)
  (hk:∀v' w',QP w w' A Y v' (ms++[m])→wpList Try.prog ops Q rest (a.put o.dst v') w'):wpList Try.prog ops Q (o::rest) a w:=by
 obtain ⟨v',w',hr,h2⟩:=append_q h hYA hA hH hm hb o.type
 refine wpList_plain hgd fun K hK=>?_
 unfold Oper.wp
 simp [execOp,ho,resolve,invoke,builtin,hs,hx,hr,Result.andThen]
 exact hK _ _ (hk _ _ h2)
end
end Go.Proofs.Ytnicaicjgaoolaa
namespace Go.Proofs.Ytnicaicjgaoolaa
open Go.RowKit Go.ChangeMaps Go.WideMaps Go.Maps
set_option maxRecDepth 20000
section
variable {w w':World} {A A' Y Y':List Nat} {v:Value} {ms:List Msg}
theorem IsQ.drop {p:Addr} {n c:Nat} (h:IsQ w A Y (.slice (some p) n c) ms) (j:Nat) (hj:j≤n):IsQ w A Y (.slice (some (if c=j then p else p.add (j*5))) (n - j) (c - j)) (ms.drop j):=by
 rcases h with ⟨h,_⟩ | ⟨g,off,c',cur,h1,h2,h3,h4,h5,h6,h7⟩
 ·cases h
 ·simp only [Value.slice.injEq] at h1
  obtain ⟨e1,rfl,rfl⟩:=h1
  cases e1
  by_cases hc:c=j
  ·subst hc
   have hm:ms.drop c=[]:=List.drop_eq_nil_iff.2 (by omega)
   rw [hm]
   exact .inr ⟨g,off,0,cur,by simp;omega,Nat.le_refl _,by omega,h4,h5,by omega,fun i hi=>by cases hi⟩
  ·rw [if_neg hc]
   refine .inr ⟨g,off+j,c - j,cur,?_,by simp;omega,by omega,h4,h5,by omega,fun i hi=>?_⟩
   ·rw [Addr.add_lit,List.length_drop]
    congr 3
    omega
   ·rw [List.length_drop] at hi
    have:=h7 (j+i) (by omega)
    rw [List.getElem_drop,show off+j+i=off+(j+i) by omega]
    exact this
theorem IsQ.take {p:Addr} {n c:Nat} (h:IsQ w A Y (.slice (some p) n c) ms) (j:Nat) (hj:j≤n):IsQ w A Y (.slice (some p) j c) (ms.take j):=by
 rcases h with ⟨h,_⟩ | ⟨g,off,c',cur,h1,h2,h3,h4,h5,h6,h7⟩
 ·cases h
 ·simp only [Value.slice.injEq] at h1
  obtain ⟨e1,rfl,rfl⟩:=h1
  cases e1
  refine .inr ⟨g,off,c,cur,by rw [List.length_take,Nat.min_eq_left hj],by rw [List.length_take];omega,h3,h4,h5,h6,fun i hi=>?_⟩
  rw [List.length_take] at hi
  rw [List.getElem_take]
  exact h7 i (by omega)
/-- the cells of a row of messages -/
theorem IsQ.cells {p:Addr} {n c:Nat} (h:IsQ w A Y (.slice (some p) n c) ms):∃news:List Value,news.length=n*5∧n=ms.length∧(∀j u,news[j]? = some u→w.cell? (p.add j)=some u)∧(∀u∈news,u.oneCell'=true)∧∀i,(hi:i<ms.length)→∃v u,news[i*5]? = some (.int .i64 ms[i].frm)∧news[i*5+1]? = some (.int .i64 ms[i].dst)∧news[i*5+2]? = some (.int .i64 ms[i].kind)∧news[i*5+3]? = some v∧news[i*5+4]? = some u∧IsMsg w A ms[i] v u:=by
 rcases h with ⟨h,_⟩ | ⟨g,off,c',cur,h1,h2,h3,h4,h5,h6,h7⟩
 ·cases h
 ·simp only [Value.slice.injEq] at h1
  obtain ⟨e1,rfl,rfl⟩:=h1
  cases e1
  have hget:∀j,((cur.toList.drop (off*5)).take (ms.length*5))[j]? = if j<ms.length*5 then cur[off*5+j]? else none:=fun j=>by
   rw [List.getElem?_take]
   split
   ·rw [List.getElem?_drop,Array.getElem?_toList]
   ·rfl
  have hat:∀i,(hi:i<ms.length)→∃v u,((cur.toList.drop (off*5)).take (ms.length*5))[i*5]? = some (.int .i64 ms[i].frm)∧((cur.toList.drop (off*5)).take (ms.length*5))[i*5+1]? = some (.int .i64 ms[i].dst)∧((cur.toList.drop (off*5)).take (ms.length*5))[i*5+2]? = some (.int .i64 ms[i].kind)∧((cur.toList.drop (off*5)).take (ms.length*5))[i*5+3]? = some v∧((cur.toList.drop (off*5)).take (ms.length*5))[i*5+4]? = some u∧IsMsg w A ms[i] v u:=fun i hi=>by
   obtain ⟨v,u,k1,k2,k3,k4,k5,k6⟩:=h7 i hi
   have q:(off+i)*5=off*5+i*5:=by omega
   rw [q] at k1 k2 k3 k4 k5
   refine ⟨v,u,?_,?_,?_,?_,?_,k6⟩
   ·rw [hget,if_pos (by omega)];exact k1
   ·rw [hget,if_pos (by omega)];exact k2
   ·rw [hget,if_pos (by omega)];exact k3
   ·rw [hget,if_pos (by omega)];exact k4
   ·rw [hget,if_pos (by omega)];exact k5
  refine ⟨(cur.toList.drop (off*5)).take (ms.length*5),by simp only [List.length_take,List.length_drop,Array.length_toList];omega,rfl,fun j u hj=>?_,fun u hu=>?_,hat⟩
  ·rw [hget] at hj
   split at hj
   ·rw [Addr.add_lit,cell_heap h5];exact hj
   ·cases hj
  ·obtain ⟨j,hj⟩:=List.getElem?_of_mem hu
   have hlt:j<ms.length*5:=by
    rw [hget] at hj
    split at hj
    ·assumption
    ·cases hj
   obtain ⟨v,u',k1,k2,k3,k4,k5,k6⟩:=hat (j / 5) (by omega)
   have e:j=j / 5*5+j % 5:=by omega
   have h9:j % 5<5:=by omega
   generalize j % 5=r at e h9
   rw [e] at hj
   match r,h9,hj with
   | 0,_,hj=>rw [Nat.add_zero,k1] at hj;cases hj;rfl
   | 1,_,hj=>rw [k2] at hj;cases hj;rfl
   | 2,_,hj=>rw [k3] at hj;cases hj;rfl
   | 3,_,hj=>rw [k4] at hj;cases hj;exact k6.one.1
   | 4,_,hj=>rw [k5] at hj;cases hj;exact k6.one.2
end
end Go.Proofs.Ytnicaicjgaoolaa
namespace Go.Proofs.Ytnicaicjgaoolaa
open Go.RowKit Go.ChangeMaps Go.WideMaps Go.Maps
set_option maxRecDepth 20000
/-- a row of messages in block g, of its own -/
structure RowQ (w:World) (A:List Nat) (g:Nat) (v:Value) (ms:List Msg):Prop where
 q:IsQ w A [g] v ms
 typ:∃cur,w.heap[g]? = some (.cells cur 51 (0,0))
/-- the row grows in place, or stands in a new block -/
structure GrowQ (w w':World) (A:List Nat) (g:Nat) (v:Value) (ms:List Msg):Prop where
 ex:∃g',RowQ w' (A++[g']) g' v ms∧Only [g] w w'∧(g'=g∨w.heap.size≤g')
theorem IsQ.inY {w:World} {A Y:List Nat} {p:Addr} {n c:Nat} {ms:List Msg} (h:IsQ w A Y (.slice (some p) n c) ms):p.block∈Y∧∃cur,w.heap[p.block]? = some (.cells cur 51 (0,0)):=by
 rcases h with ⟨h,_⟩ | ⟨g,off,c',cur,h1,h2,h3,h4,h5,h6,h7⟩
 ·cases h
 ·simp only [Value.slice.injEq] at h1
  obtain ⟨e1,_,_⟩:=h1
  cases e1
  exact ⟨h4,cur,h5⟩
section
variable {w w':World} {A A' Y Y':List Nat} {v:Value} {ms:List Msg}
theorem freshQ {n cap:Nat} {cells:List Value} {ms':List Msg} (hA:∀b∈A,b<w.heap.size) (rest:Array Value) (hn:n=ms'.length) (hcap:n≤cap) (hc9:cap≤9223372036854775807) (hsz:cap*5≤cells.length+rest.size)
  (hq:∀i,(h:i<ms'.length)→∃v u,cells[i*5]? = some (.int .i64 ms'[i].frm)∧cells[i*5+1]? = some (.int .i64 ms'[i].dst)∧cells[i*5+2]? = some (.int .i64 ms'[i].kind)∧cells[i*5+3]? = some v∧cells[i*5+4]? = some u∧IsMsg w A ms'[i] v u) :
  RowQ (w.drew.alloc (.cells (cells.toArray++rest) 51)) (A++[w.heap.size]) w.heap.size (.slice (some ⟨w.heap.size,0,none⟩) n cap) ms':=by
 have hb:Below w.heap.size w (w.drew.alloc (.cells (cells.toArray++rest) 51)):=(below_drewN w 1).alloc (Nat.le_refl _) _
 have hnew:(w.drew.alloc (.cells (cells.toArray++rest) 51)).heap[w.heap.size]? = some (.cells (cells.toArray++rest) 51 (0,0)):=heap_new w.drew _
 have hext:Ext A (A++[w.heap.size]) w:=fun b hb=>by
  rcases List.mem_append.1 hb with h | h
  ·exact .inl h
  ·exact .inr (by rw [List.mem_singleton.1 h];exact Nat.le_refl _)
 refine ⟨.inr ⟨w.heap.size,0,cap,_,by rw [Nat.zero_mul,hn],by omega,hc9,by simp,hnew,by simp;omega,fun i hi=>?_⟩,_,hnew⟩
 ·obtain ⟨v,u,h1,h2,h3,h4,h5,h6⟩:=hq i hi
  have hg:∀{j:Nat} {x:Value},cells[j]? = some x→(cells.toArray++rest)[j]? = some x:=fun {j x} hj=>by
   have hlt:=(List.getElem?_eq_some_iff.1 hj).1
   rw [Array.getElem?_append_left (by simpa using hlt)]
   simpa using hj
  rw [Nat.zero_add]
  exact ⟨v,u,hg h1,hg h2,hg h3,hg h4,hg h5,h6.step (Only.ofBelow hb []) (fun b hb=>by cases hb) hext⟩
theorem grow_q {Y2:List Nat} {ms2:List Msg} {p2:Addr} {n2 c2:Nat} {p1:Addr} {n1 c1:Nat} (h:IsQ w A Y (.slice (some p1) n1 c1) ms) (hs:IsQ w A Y2 (.slice (some p2) n2 c2) ms2) (hYA:∀b∈Y,b∈A) (hA:∀b∈A,b<w.heap.size) (hb:ms.length+ms2.length≤1000000) (ty:TypeId) :
  ∃p n c w',(Builtin.append_ #[35,35] ty #[.slice (some p1) n1 c1,.slice (some p2) n2 c2]).run Try.prog w = .ok (.slice (some p) n c) w'∧GrowQ w w' A p1.block (.slice (some p) n c) (ms++ms2):=by
 obtain ⟨i0,hi0,hz0,hz1,hz2⟩:=info_parts info51
 obtain ⟨news,hl,e2,hnews,hones,hat⟩:=hs.cells
 obtain ⟨old,hlo,e1,hold,_,hato⟩:=h.cells
 subst e1 e2
 rcases h with ⟨h,_⟩ | ⟨g,off,c',cur,h1,h2,h3,h4,h5,h6,h7⟩
 ·cases h
 simp only [Value.slice.injEq] at h1
 obtain ⟨e1,_,rfl⟩:=h1
 cases e1
 by_cases hroom:ms.length+ms2.length≤c1
 ·have hr:=run_append_room_off (P:=Try.prog) w 35 ty 51 i0 Try.underlying35 hi0 g (off*5) ms.length c1 cur h5 p2 ms2.length c2 news (by rw [hz1];exact hl) hnews hones hroom (by rw [hz1,hl];omega)
  rw [hz1] at hr
  refine ⟨_,_,_,_,hr,g,⟨.inr ⟨g,off,c1,_,by simp,by simpa using hroom,h3,by simp,setRow_heap _ _ _ _ _ _ h5,by simp;omega,fun i hi=>?_⟩,_,setRow_heap _ _ _ _ _ _ h5⟩,setRow_only _ _ _,.inl rfl⟩
  have hst:Only [g] w (w.setRow g (cur.toList.take (off*5+ms.length*5)++news++cur.toList.drop (off*5+ms.length*5+news.length)).toArray):=setRow_only _ _ _
  have hgA:∀b∈[g],b∈A:=fun b hb=>by rw [List.mem_singleton.1 hb];exact hYA g h4
  have hx9:Ext A (A++[g]) w:=fun b hb=>by
   rcases List.mem_append.1 hb with h | h
   ·exact .inl h
   ·exact .inl (hgA b h)
  have hl9:(cur.toList.take (off*5+ms.length*5)).length=off*5+ms.length*5:=by simp only [List.length_take,Array.length_toList];omega
  by_cases hlt:i<ms.length
  ·have e:(ms++ms2)[i]=ms[i]:=by simp [List.getElem_append_left,hlt]
   rw [e]
   obtain ⟨v,u,k1,k2,k3,k4,k5,k6⟩:=h7 i hlt
   have hg:∀{j:Nat} {x:Value},j<off*5+ms.length*5→cur[j]? = some x→(cur.toList.take (off*5+ms.length*5)++news++cur.toList.drop (off*5+ms.length*5+news.length)).toArray[j]? = some x:=fun {j x} hj hx=>by
    rw [List.getElem?_toArray,List.append_assoc,List.getElem?_append_left (by rw [hl9];exact hj),List.getElem?_take,if_pos hj,Array.getElem?_toList]
    exact hx
   exact ⟨v,u,hg (by omega) k1,hg (by omega) k2,hg (by omega) k3,hg (by omega) k4,hg (by omega) k5,k6.step hst hgA hx9⟩
  ·rw [List.length_append] at hi
   obtain ⟨k,rfl⟩:∃k,i=ms.length+k:=⟨i - ms.length,by omega⟩
   have e:(ms++ms2)[ms.length+k]=ms2[k]:=by simp
   rw [e]
   obtain ⟨v,u,k1,k2,k3,k4,k5,k6⟩:=hat k (by omega)
   have hg:∀{j:Nat} {x:Value},news[k*5+j]? = some x→(cur.toList.take (off*5+ms.length*5)++news++cur.toList.drop (off*5+ms.length*5+news.length)).toArray[(off+(ms.length+k))*5+j]? = some x:=fun {j x} hx=>by
    have hlt:=(List.getElem?_eq_some_iff.1 hx).1
    rw [List.getElem?_toArray,List.append_assoc,List.getElem?_append_right (by rw [hl9];omega),hl9,show (off+(ms.length+k))*5+j - (off*5+ms.length*5)=k*5+j by omega,List.getElem?_append_left hlt]
    exact hx
   exact ⟨v,u,hg (j:=0) k1,hg k2,hg k3,hg k4,hg k5,k6.step hst hgA hx9⟩
 ·have hr:=run_append_grow (P:=Try.prog) (w:=w) 35 ty 51 i0 (.agg #[.int .i64 0,.int .i64 0,.int .i64 0,.slice none 0 0,.slice none 0 0]) Try.underlying35 hi0 hz0 ⟨g,off*5,none⟩ ms.length c1 old (by rw [hz1];exact hlo) hold p2 ms2.length c2 news (by rw [hz1];exact hl) hnews (by omega) (by omega) (growslice_fits (by omega) (by rw [hz2];omega))
  have eT:old.toArray++news.toArray=(old++news).toArray:=by
   apply Array.ext';simp
  rw [eT] at hr
  refine ⟨_,_,_,_,hr,w.heap.size,freshQ (ms':=ms++ms2) hA _ (by rw [List.length_append]) (grownCap_ge w (ms.length+ms2.length) c1 51) (Nat.le_trans (grownCap_le_maxLen w (ms.length+ms2.length) c1 51 (by unfold maxLen;omega)) (by unfold maxLen;omega)) ?_ (fun i hi=>?_),Only.ofBelow ((below_drewN w 1).alloc (Nat.le_refl _) _) _,.inr (Nat.le_refl _)⟩
  ·rw [size_zeroCells,List.length_append,hlo,hl]
   have:=grownCap_ge w (ms.length+ms2.length) c1 51
   simp [Value.cells];omega
  ·by_cases hlt:i<ms.length
   ·have e:(ms++ms2)[i]=ms[i]:=by simp [List.getElem_append_left,hlt]
    rw [e]
    obtain ⟨v,u,k1,k2,k3,k4,k5,k6⟩:=hato i hlt
    have hg:∀{j:Nat} {x:Value},old[j]? = some x→(old++news)[j]? = some x:=fun {j x} hx=>by
     rw [List.getElem?_append_left (List.getElem?_eq_some_iff.1 hx).1]
     exact hx
    exact ⟨v,u,hg k1,hg k2,hg k3,hg k4,hg k5,k6⟩
   ·rw [List.length_append] at hi
    obtain ⟨k,rfl⟩:∃k,i=ms.length+k:=⟨i - ms.length,by omega⟩
    have e:(ms++ms2)[ms.length+k]=ms2[k]:=by simp
    rw [e]
    obtain ⟨v,u,k1,k2,k3,k4,k5,k6⟩:=hat k (by omega)
    have hg:∀{j:Nat} {x:Value},news[k*5+j]? = some x→(old++news)[(ms.length+k)*5+j]? = some x:=fun {j x} hx=>by
     rw [List.getElem?_append_right (by rw [hlo];omega),hlo,show (ms.length+k)*5+j - ms.length*5=k*5+j by omega]
     exact hx
    exact ⟨v,u,hg (j:=0) k1,hg k2,hg k3,hg k4,hg k5,k6⟩
end
end Go.Proofs.Ytnicaicjgaoolaa
