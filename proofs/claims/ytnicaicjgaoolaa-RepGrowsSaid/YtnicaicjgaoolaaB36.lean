/-
  What the proof of the law leans on: contracts of the program's functions, one behind another. No condition.
-/
import Derived.Lib.SlBytesConst
import Derived.Test.YtnicaicjgaoolaaB35
set_option linter.unusedVariables false
set_option linter.unusedSimpArgs false
namespace Go.Proofs.Ytnicaicjgaoolaa
set_option maxRecDepth 20000
section
variable {n cl lv : Nat} {S : Mn}
theorem rp_new_up (j n : Nat) (hj : j < n) (hn : n ≤ 5) : UpI (rpNew j n 1 []) dk0 := by
 refine ⟨⟨by show 1 ≤ n; omega, hn, hj, by simp [rpNew], by simp [rpNew], by simp [rpNew], by simp [rpNew], ?_, ?_, ?_, ?_, Nat.le_refl _, rfl, (fun h => by cases h), Int.le_refl _, ?_, Int.le_refl _, ?_, (fun x hx => by cases hx), Nat.le_refl _, fun x hx => ?_⟩, ⟨⟨[], rfl, trivial, fun _ => ⟨rfl, rfl, rfl⟩⟩, (fun h => by cases h)⟩, (fun l q h => by cases h), rfl⟩
 ·exact Int.le_refl _
 ·show ((0 : Nat) : Int) ≤ 1048576; decide
 ·rfl
 ·exact Nat.le_refl _
 ·show (0 : Int) ≤ _; decide
 ·show (-1 : Int) < (n : Int); omega
 ·have : x ∈ List.replicate n ((0 : Int), (0 : Int), (0 : Int)) := hx
  rw [List.eq_of_mem_replicate this]
  exact ⟨Int.le_refl _, Int.le_refl _⟩
theorem binv_begun (n : Nat) (h1 : 1 ≤ n) (h5 : n ≤ 5) : BInv n 0 1 (Mn.begun n) := by
 have hat := begun_at n
 have hu : ∀ i, i < n → UpI (nodN n i).s (nodN n i).k := fun i hi => rp_new_up i n hi h5
 refine ⟨⟨by simp [Mn.begun], fun i hi => by rw [hat i hi]; exact ⟨rfl, rfl⟩, fun i hi _ => by rw [hat i hi]; exact ⟨(hu i hi).wf, Nat.le_refl _⟩, (fun m hm => by cases hm), Nat.zero_le _⟩, h1, h5, fun i hi _ => by rw [hat i hi]; exact ⟨hu i hi, rfl⟩, (fun i hi hd => by rw [hat i hi] at hd; cases hd), fun i hi => by rw [hat i hi]; exact ⟨show (0 : Int) ≤ 1 by decide, show (1 : Int) ≤ ((1 : Nat) : Int) by decide⟩, Nat.zero_le _⟩
/-- no record anywhere -/
structure QInv (n : Nat) (S : Mn) : Prop where
 up : ∀ i, i < n → (S.at i).up = true → Qt (S.at i).s
 dsk : ∀ i, i < n → ∀ b ∈ (S.at i).s.wl.recs, b.length ≤ 32
 q : ∀ m ∈ S.q, QtM m
theorem QInv.set {i : Nat} {nd : Nod} (h : QInv n S) (hl : S.nodes.length = n) (hi : i < n) (h1 : nd.up = true → Qt nd.s) (h2 : ∀ b ∈ nd.s.wl.recs, b.length ≤ 32) : QInv n (S.set i nd) := by
 have hat : ∀ j, (S.set i nd).at j = if j = i then nd else S.at j := fun j => Mn.at_set S i j _ (by rw [hl]; exact hi)
 refine ⟨fun j hj hu => ?_, fun j hj => ?_, h.q⟩
 ·by_cases e : j = i
  ·subst e
   rw [hat, if_pos rfl] at hu ⊢
   exact h1 hu
  ·rw [hat, if_neg e] at hu ⊢
   exact h.up j hj hu
 ·by_cases e : j = i
  ·subst e
   rw [hat, if_pos rfl]
   exact h2
  ·rw [hat, if_neg e]
   exact h.dsk j hj
theorem QInv.call {i : Nat} {p : List Msg × Rp × Dk} (h : QInv n S) (hl : S.nodes.length = n) (hi : i < n) (hp : Qt p.2.1 ∧ ∀ m ∈ p.1, QtM m) : QInv n ((S.set i ⟨p.2.1, p.2.2, true⟩).send p.1) := by
 have h2 := h.set (nd := ⟨p.2.1, p.2.2, true⟩) hl hi (fun _ => hp.1) hp.1.dsk
 refine ⟨h2.up, h2.dsk, fun m hm => ?_⟩
 rcases send_mem _ _ _ hm with h1 | h1
 ·exact h2.q m h1
 ·exact hp.2 m h1
theorem QInv.ofq {q : List Msg} (h : QInv n S) (hq : ∀ m ∈ q, m ∈ S.q) : QInv n { S with q := q } := ⟨h.up, h.dsk, fun m hm => h.q m (hq m hm)⟩
theorem QInv.tick (h : QInv n S) (hb : BInv n cl lv S) (i : Nat) (hi : i < n) : QInv n (S.tick i) := by
 unfold Mn.tick
 split
 ·rename_i hu
  exact h.call hb.sv.nl hi ((st_tick (hb.up i hi hu).1.wf).qt (h.up i hi hu))
 ·exact h
theorem QInv.bring (h : QInv n S) (hb : BInv n cl lv S) (m : Msg) (h0 : 0 ≤ m.dst) (h1 : m.dst < (n : Int)) (hm : QtM m) : QInv n (S.bring m) := by
 unfold Mn.bring
 split
 ·rename_i hu
  have hi : m.dst.toNat < n := by omega
  exact h.call hb.sv.nl hi ((st_get (hb.up _ hi hu).1.wf m).qt (h.up _ hi hu) hm)
 ·exact h
theorem QInv.act (h : QInv n S) (hb : BInv n cl lv S) (a : Ac) (ha : a.op ≠ 6) : QInv n (S.act n a) := by
 have hi := actI_lt a.N hb.n1
 unfold Mn.act
 split
 ·exact h.tick hb _ hi
 ·split
  ·exact h.set hb.sv.nl hi (fun e => by cases e) (h.dsk _ hi)
  ·split
   ·unfold Mn.back
    split
    ·exact h
    ·have hq := back_quiet (k := (S.at (actI a.N n)).k) (h.dsk _ hi) (actI a.N n) n
     exact h.set hb.sv.nl hi (fun _ => hq) hq.dsk
   ·have hlose : ∀ K, QInv n (S.lose K) := fun K => h.ofq (fun m hm => by
     rcases List.mem_append.1 hm with h1 | h1
     ·exact List.mem_of_mem_take h1
     ·exact List.mem_of_mem_drop h1)
    split
    ·unfold Mn.fetch
     split
     ·exact h
     ·rename_i m hm
      have hmq := List.mem_of_getElem? hm
      obtain ⟨fr, hf, hg⟩ := hb.sv.q m hmq
      exact (hlose a.K).bring (hb.lose a.K) m hg.d0 hg.dn (h.q m hmq)
    ·split
     ·exact hlose _
     ·split
      ·unfold Mn.twice
       split
       ·exact h
       ·rename_i m hm
        refine h.ofq (fun x hx => ?_)
        rcases addQ_mem _ _ _ hx with h1 | h1
        ·exact h1
        ·rw [h1]; exact List.mem_of_getElem? hm
      ·exact h
theorem QInv.acts (h : QInv n S) (hb : BInv n cl lv S) (l : List Ac) (hl : ∀ a ∈ l, a.op ≠ 6) : QInv n (S.acts n l) := by
 induction l generalizing S cl lv with
 | nil => exact h
 | cons a l ih => exact ih (h.act hb a (hl a List.mem_cons_self)) (hb.act a) (fun x hx => hl x (List.mem_cons_of_mem _ hx))
theorem QInv.ticks (h : QInv n S) (hb : BInv n cl lv S) (k : Nat) (hk : k ≤ n) : QInv n (S.ticks k) := by
 induction k with
 | zero => exact h
 | succ k ih =>
  rw [ticks_succ]
  exact (ih (by omega)).tick (hb.ticks k (by omega)) k (by omega)
theorem QInv.drain (h : QInv n S) (hb : BInv n cl lv S) (f : Nat) : QInv n (S.drain f) := by
 induction f generalizing S with
 | zero => exact h
 | succ f ih =>
  unfold Mn.drain
  split
  ·exact h
  ·rename_i m q hq
   obtain ⟨fr, hf, hg⟩ := hb.sv.q m (by rw [hq]; exact List.mem_cons_self)
   have hb2 := hb.ofq (q := q) (fun x hx => by rw [hq]; exact List.mem_cons_of_mem _ hx) (by have := hb.sv.ql; rw [hq] at this; simp at this; omega)
   exact ih ((h.ofq (q := q) (fun x hx => by rw [hq]; exact List.mem_cons_of_mem _ hx)).bring hb2 m hg.d0 hg.dn (h.q m (by rw [hq]; exact List.mem_cons_self))) (hb2.bring m hg.d0 hg.dn)
theorem QInv.calm (h : QInv n S) (hb : BInv n cl lv S) (r : Nat) : QInv n (Mn.calm n r S).2 := by
 induction r generalizing S cl with
 | zero => simpa [Mn.calm] using h
 | succ r ih =>
  have h1 := (h.ticks hb n (Nat.le_refl _)).drain (hb.ticks n (Nat.le_refl _)) 4000
  have hb1 := (hb.ticks n (Nat.le_refl _)).drain 4000
  unfold Mn.calm
  split
  ·exact ih h1 hb1
  ·exact h1
theorem qinv_begun (n : Nat) : QInv n (Mn.begun n) := by
 have hat := begun_at n
 refine ⟨fun i hi _ => ?_, fun i hi => ?_, (fun m hm => by cases hm)⟩
 ·rw [hat i hi]; exact ⟨(fun x hx => by cases hx), (fun x hx => by cases hx)⟩
 ·rw [hat i hi]; exact (fun x hx => by cases hx)
theorem qt_agreed {s : Rp} (h : Qt s) : agreedM s = [] := by
 unfold agreedM recs
 rw [List.map_eq_nil_iff, List.filter_eq_nil_iff]
 intro x hx
 rw [h.log x (List.mem_of_mem_take hx)]
 simp
/-- nothing is told -/
theorem QInv.look (h : QInv n S) (f i : Nat) (hf : i + f ≤ n) : lookI S f i [] = (true, []) := by
 induction f generalizing i with
 | zero => rfl
 | succ f ih =>
  unfold lookI
  split
  ·rename_i hu
   rw [qt_agreed (h.up i (by omega) hu)]
   exact ih (i + 1) (by omega)
  ·exact ih (i + 1) (by omega)
theorem keep_long (S : Mn) (l : List Ac) (n : Nat) : (S.acts n l).long = S.long ∧ (S.acts n l).bad = S.bad := by
 have hs : ∀ (S : Mn) ms, (S.send ms).long = S.long ∧ (S.send ms).bad = S.bad := fun S ms => ⟨rfl, rfl⟩
 have hb : ∀ (S : Mn) m, (S.bring m).long = S.long ∧ (S.bring m).bad = S.bad := fun S m => by unfold Mn.bring; split <;> exact ⟨rfl, rfl⟩
 have ha : ∀ (S : Mn) a, (S.act n a).long = S.long ∧ (S.act n a).bad = S.bad := fun S a => by
  unfold Mn.act
  split
  ·unfold Mn.tick; split <;> exact ⟨rfl, rfl⟩
  ·split
   ·exact ⟨rfl, rfl⟩
   ·split
    ·unfold Mn.back; split <;> exact ⟨rfl, rfl⟩
    ·split
     ·unfold Mn.submit
      split
      ·simp only
       split <;> exact ⟨rfl, rfl⟩
      ·exact ⟨rfl, rfl⟩
     ·split
      ·unfold Mn.fetch
       split
       ·exact ⟨rfl, rfl⟩
       ·exact hb _ _
      ·split
       ·exact ⟨rfl, rfl⟩
       ·split
        ·unfold Mn.twice; split <;> exact ⟨rfl, rfl⟩
        ·exact ⟨rfl, rfl⟩
 induction l generalizing S with
 | nil => exact ⟨rfl, rfl⟩
 | cons a l ih => exact ⟨(ih (S.act n a)).1.trans (ha S a).1, (ih (S.act n a)).2.trans (ha S a).2⟩
theorem calm_long (S : Mn) (r : Nat) : (Mn.calm n r S).2.long = S.long ∧ (Mn.calm n r S).2.bad = S.bad := by
 have hb : ∀ (S : Mn) m, (S.bring m).long = S.long ∧ (S.bring m).bad = S.bad := fun S m => by unfold Mn.bring; split <;> exact ⟨rfl, rfl⟩
 have ht : ∀ (S : Mn) i, (S.tick i).long = S.long ∧ (S.tick i).bad = S.bad := fun S m => by unfold Mn.tick; split <;> exact ⟨rfl, rfl⟩
 have hts : ∀ (S : Mn) k, (S.ticks k).long = S.long ∧ (S.ticks k).bad = S.bad := fun S k => by
  induction k with
  | zero => exact ⟨rfl, rfl⟩
  | succ k ih => rw [ticks_succ]; exact ⟨(ht _ _).1.trans ih.1, (ht _ _).2.trans ih.2⟩
 have hd : ∀ f (S : Mn), (S.drain f).long = S.long ∧ (S.drain f).bad = S.bad := fun f => by
  induction f with
  | zero => exact fun S => ⟨rfl, rfl⟩
  | succ f ih =>
   intro S
   unfold Mn.drain
   split
   ·exact ⟨rfl, rfl⟩
   ·exact ⟨(ih _).1.trans (hb _ _).1, (ih _).2.trans (hb _ _).2⟩
 induction r generalizing S with
 | zero => exact ⟨rfl, rfl⟩
 | succ r ih =>
  have e := hd 4000 (S.ticks n)
  have e2 := hts S n
  unfold Mn.calm
  split
  ·exact ⟨(ih _).1.trans (e.1.trans e2.1), (ih _).2.trans (e.2.trans e2.2)⟩
  ·exact ⟨e.1.trans e2.1, e.2.trans e2.2⟩
/-- RepQuiet: nothing is told -/
theorem quiet_law (n : Nat) (h1 : 1 ≤ n) (h5 : n ≤ 5) (l : List Ac) (hl : ∀ a ∈ l, a.op ≠ 6) (r : Nat) :
  ((Mn.calm n r ((Mn.begun n).acts n l)).2.look n).1 = true ∧ ((Mn.calm n r ((Mn.begun n).acts n l)).2.look n).2.long = [] := by
 have hb := (binv_begun n h1 h5).acts l
 have hq := ((qinv_begun n).acts (binv_begun n h1 h5) l hl).calm hb r
 have hk := calm_long (n := n) ((Mn.begun n).acts n l) r
 have ha := keep_long (Mn.begun n) l n
 have e1 : (Mn.calm n r ((Mn.begun n).acts n l)).2.long = [] := hk.1.trans ha.1
 have e2 : (Mn.calm n r ((Mn.begun n).acts n l)).2.bad = false := hk.2.trans ha.2
 unfold Mn.look
 rw [e1, hq.look n 0 (by omega), e2]
 exact ⟨rfl, rfl⟩
/-- how much a node that is up tells -/
def toldOf (nd : Nod) : Nat := (agreedM nd.s).length
theorem set_grows {i : Nat} {nd : Nod} (hl : S.nodes.length = n) (hi : i < n) (h1 : nd.up = true → (S.at i).up = true ∧ Gr (S.at i).s nd.s) (j : Nat) (hu : ((S.set i nd).at j).up = true) : (S.at j).up = true ∧ Gr (S.at j).s ((S.set i nd).at j).s := by
 rw [Mn.at_set S i j _ (by rw [hl]; exact hi)] at hu ⊢
 by_cases e : j = i
 ·subst e
  rw [if_pos rfl] at hu ⊢
  exact h1 hu
 ·rw [if_neg e] at hu ⊢
  exact ⟨hu, Gr.refl _⟩
/-- an act, but for one that lets power come back: who is up was up, and tells no less -/
theorem act_grows (hb : BInv n cl lv S) (a : Ac) (ha : a.op ≠ 5) (j : Nat) (hu : ((S.act n a).at j).up = true) : (S.at j).up = true ∧ Gr (S.at j).s ((S.act n a).at j).s := by
 have hi := actI_lt a.N hb.n1
 have hnl := hb.sv.nl
 have same : ∀ (T : Mn), T.nodes = S.nodes → (T.at j).up = true → (S.at j).up = true ∧ Gr (S.at j).s (T.at j).s := fun T e hu => by
  have e2 : T.at j = S.at j := by unfold Mn.at; rw [e]
  rw [e2] at hu ⊢
  exact ⟨hu, Gr.refl _⟩
 revert hu
 unfold Mn.act
 split
 ·unfold Mn.tick
  split
  ·rename_i hu0
   intro hu
   exact set_grows hnl hi (fun _ => ⟨hu0, (st_tick (hb.up _ hi hu0).1.wf).gr⟩) j hu
  ·exact same _ rfl
 ·split
  ·exact fun hu => set_grows hnl hi (fun e => by cases e) j hu
  ·split
   ·unfold Mn.submit
    split
    ·rename_i hu0
     simp only
     intro hu
     have hg := gr_submit (hb.up _ hi hu0).1.wf a.B
     split at hu <;> split
     all_goals first | exact set_grows (nd := ⟨(submitM (S.at (actI a.N n)).s (S.at (actI a.N n)).k a.B).2.2.1, (submitM (S.at (actI a.N n)).s (S.at (actI a.N n)).k a.B).2.2.2, true⟩) hnl hi (fun _ => ⟨hu0, hg⟩) j hu | (rename_i x y; exact absurd x y) | (rename_i x y; exact absurd y x)
    ·exact same _ rfl
   ·split
    ·unfold Mn.fetch
     split
     ·exact same _ rfl
     ·rename_i m hm
      obtain ⟨fr, hf, hg⟩ := hb.sv.q m (List.mem_of_getElem? hm)
      unfold Mn.bring
      split
      ·rename_i hu0
       intro hu
       have hi2 : m.dst.toNat < n := by have := hg.d0; have := hg.dn; omega
       exact set_grows (S := S) (nd := ⟨(getM (S.at m.dst.toNat).s (S.at m.dst.toNat).k m).2.1, (getM (S.at m.dst.toNat).s (S.at m.dst.toNat).k m).2.2, true⟩) hnl hi2 (fun _ => ⟨hu0, (st_get (hb.up _ hi2 hu0).1.wf m).gr⟩) j hu
      ·exact same _ rfl
    ·split
     ·exact same _ rfl
     ·split
      ·unfold Mn.twice
       split <;> exact same _ rfl
      ·exact same _ rfl
theorem act_told (hb : BInv n cl lv S) (a : Ac) (ha : a.op ≠ 5) (j : Nat) (hu : ((S.act n a).at j).up = true) : (S.at j).up = true ∧ toldOf (S.at j) ≤ toldOf ((S.act n a).at j) := by
 obtain ⟨h1, h2⟩ := act_grows hb a ha j hu
 exact ⟨h1, h2.agreed.length_le⟩
end
end Go.Proofs.Ytnicaicjgaoolaa
namespace Go.Proofs.Ytnicaicjgaoolaa
open Go.RowKit Go.ChangeMaps Go.WideMaps Go.Maps
set_option maxRecDepth 20000
section
variable {w : World} {A Z : List Nat} {c n cl lv : Nat} {S : Mn}
theorem do_any (h : Sy w A Z c n S) (hi : BInv n cl lv S) (x : Ac) (bo : Option Addr) (bc : Nat) (hb : ImmZ w A (.slice bo x.B.length bc) x.B) (hx : x.B.length ≤ 300) (hp : -9223372036854775808 ≤ x.P ∧ x.P ≤ 9223372036854775807) (hcl : cl ≤ 900000) (hlv : lv ≤ 900000) :
  Calls Try.prog 11 #[.pointer (some ⟨c, 0, none⟩), .agg #[.int .i64 x.op, .int .i64 x.N, .int .i64 x.K, .int .i64 x.P, .slice bo x.B.length bc]] w fun e w' => e = .returned (.tuple #[]) ∧ SyP w w' A Z c n (S.act n x) := by
 obtain ⟨o, N, K, P, B⟩ := x
 unfold Mn.act
 simp only
 by_cases h0 : o = 0
 ·subst h0
  rw [if_pos rfl]
  exact do_tick h hi.sv N K P bo B.length bc hi.n1 hcl
 rw [if_neg h0]
 by_cases h4 : o = 4
 ·subst h4
  rw [if_pos rfl]
  refine do_crash h (fun i hin => ?_) N K P hp.1 hp.2 bo B.length bc hi.n1
  cases hu : (S.at i).up with
  | true =>
   have h9 := (hi.up i hin hu).1
   refine ⟨h9.sf, ?_⟩
   have := h9.wf.tot; have := h9.wf.room; omega
  | false =>
   have h9 := hi.dn i hin hu
   refine ⟨h9.sf, ?_⟩
   have := h9.tot; have := h9.room; omega
 rw [if_neg h4]
 by_cases h5 : o = 5
 ·subst h5
  rw [if_pos rfl]
  exact do_back h (fun i hin hu => ⟨hi.dn i hin hu, (hi.sv.id i hin).2, (hi.liv i hin).1, by have := (hi.liv i hin).2; omega⟩) N K P bo B.length bc hi.n1 hi.n5
 rw [if_neg h5]
 by_cases h6 : o = 6
 ·subst h6
  rw [if_pos rfl]
  exact do_submit h hi.sv N K P bo B.length bc B hb rfl (by have : B.length ≤ 300 := hx; omega) (by have := hi.gn; omega) hi.n1
 rw [if_neg h6]
 by_cases h1 : o = 1
 ·subst h1
  rw [if_pos rfl]
  exact do_fetch h hi.sv N K P bo B.length bc hi.n1
 rw [if_neg h1]
 by_cases h2 : o = 2
 ·subst h2
  rw [if_pos rfl]
  exact do_lose h hi.sv N K P bo B.length bc hi.n1
 rw [if_neg h2]
 by_cases h3 : o = 3
 ·subst h3
  rw [if_pos rfl]
  exact do_twice h hi.sv N K P bo B.length bc hi.n1
 rw [if_neg h3]
 exact (do_other h hi.sv o N K P bo B.length bc hi.n1 h0 h1 h2 h3 h4 h5 h6)
end
end Go.Proofs.Ytnicaicjgaoolaa
namespace Go.Proofs.Ytnicaicjgaoolaa
set_option maxRecDepth 100000
def aw1 : Bool × Mn := Mn.calm 1 60 (Mn.begun 1)
def aw2 : Mn := aw1.2.set 0 ⟨(leadsM (aw1.2.at 0).s (aw1.2.at 0).k).2, (aw1.2.at 0).k, true⟩
def aw3 : Bool × Mn := Mn.calm 1 1 (aw2.act 1 ⟨6, 0, 0, 0, [120]⟩)
def awakeB : Bool := aw1.1 && (aw1.2.at 0).up && (leadsM (aw1.2.at 0).s (aw1.2.at 0).k).1 && aw3.1 && (aw3.2.look 1).1 && ((aw3.2.look 1).2.long == [[120]])
theorem awakeB_true : awakeB = true := by decide +kernel
end Go.Proofs.Ytnicaicjgaoolaa
namespace Go.Proofs.Ytnicaicjgaoolaa
open Go.RowKit Go.ChangeMaps Go.WideMaps Go.Maps
set_option maxRecDepth 20000
def Mn.leads (S : Mn) (i : Nat) : Bool := (leadsM (S.at i).s (S.at i).k).1
def Mn.leadsS (S : Mn) (i : Nat) : Mn := S.set i ⟨(leadsM (S.at i).s (S.at i).k).2, (S.at i).k, true⟩
/-- where a node is up its being done is known -/
theorem leads_same {s : Rp} {k : Dk} (h1 : k.off = false) (h2 : s.lives = k.lives) : (leadsM s k).1 = (s.leads && !s.done) ∧ (leadsM s k).2 = s := by
 have hd : doneM s k = s.done := by
  unfold doneM
  rw [h1, h2]; simp
 have he : doneS s k = s := by unfold doneS; rw [hd]
 unfold leadsM
 by_cases hl : s.leads = true
 ·rw [if_pos hl]
  exact ⟨by rw [hd, hl]; rfl, he⟩
 ·rw [if_neg hl]
  exact ⟨by simp at hl; rw [hl]; rfl, rfl⟩
theorem set_same {n cl lv : Nat} {S : Mn} (h : BInv n cl lv S) (i : Nat) (hi : i < n) (hu : (S.at i).up = true) : S.set i ⟨(S.at i).s, (S.at i).k, true⟩ = S := by
 have e : (⟨(S.at i).s, (S.at i).k, true⟩ : Nod) = S.at i := by rw [← hu]
 rw [e]
 have hl : i < S.nodes.length := by rw [h.sv.nl]; exact hi
 have e2 : S.at i = S.nodes[i] := by unfold Mn.at; simp [List.getD_eq_getElem?_getD, hl]
 unfold Mn.set
 rw [e2, List.set_getElem_self]
theorem leadsS_same {n cl lv : Nat} {S : Mn} (h : BInv n cl lv S) (i : Nat) (hi : i < n) (hu : (S.at i).up = true) : S.leadsS i = S ∧ S.leads i = ((S.at i).s.leads && !(S.at i).s.done) := by
 have h1 := h.up i hi hu
 have h2 := leads_same h1.1.off h1.2
 unfold Mn.leadsS Mn.leads
 rw [h2.2, h2.1]
 exact ⟨set_same h i hi hu, rfl⟩
section
variable {w w' : World} {A A' Y Z Z' : List Nat} {c n cl lv : Nat} {S : Mn} {rs ds ls : Nat → Nat} {Xs : Nat → List Nat} {vr vd : Value} {gu : Nat} {qv gv lgv : Value}
theorem leads_sy (h : SyC w A Y c n S rs ds ls Xs vr vd gu qv gv lgv) (hz : ∀ b, b ∈ Z ↔ b ∈ Y ∨ ∃ i, i < n ∧ b ∈ Xs i) (i : Nat) (hi : i < n) (hu : (S.at i).up = true) :
  Calls Try.prog 15 #[.pointer (some ⟨rs i, 0, none⟩)] w fun e w' => e = .returned (.bool (S.leads i)) ∧ SyP w w' A Z c n (S.leadsS i) := by
 have hn := (h.node i hi).up hu
 refine (leads_any hn).mono ?_
 rintro e w2 ⟨rfl, hn2, ho⟩
 refine ⟨rfl, ?_⟩
 have hm : Mv A A (Xs i) (Xs i) w w2 := Mv.only ho (fun b hb => by rw [List.mem_singleton.1 hb]; exact hn.rX)
 obtain ⟨Z', hz', hmz⟩ := mv_call (Y := Y) hi hz hm
 have hs := h.call (nd := ⟨(leadsM (S.at i).s (S.at i).k).2, (S.at i).k, true⟩) hi hm ⟨fun _ => hn2, (fun e => by cases e), hn2.xA⟩ hu.symm hn2.alt
 exact ⟨A, Z', ⟨Y, rs, ds, ls, setF Xs i (Xs i), vr, vd, gu, qv, gv, lgv, hs, hz'⟩, hmz⟩
end
end Go.Proofs.Ytnicaicjgaoolaa
namespace Go.Proofs.Ytnicaicjgaoolaa
open Go.RowKit Go.ChangeMaps Go.WideMaps Go.Maps
set_option maxRecDepth 20000
section
variable {w : World}
set_option maxHeartbeats 4000000 in
theorem awake_any : Calls Try.prog 8 #[] w fun e w' => e = .returned (.bool true) ∧ Below w.heap.size w w' := by
 have HA := Lib.hid awakeB_true
 unfold awakeB at HA
 have hb0 := binv_begun 1 (Nat.le_refl _) (by omega)
 have hb1 : BInv 1 (0 + 60 * 1) 1 aw1.2 := hb0.calm 60
 have HB0 := Lib.hid hb0
 have HB1 := Lib.hid hb1
 have HAS : Hid (aw1.1 = true ∧ (aw1.2.at 0).up = true ∧ aw1.2.leads 0 = true ∧ aw3.1 = true ∧ (aw3.2.look 1).1 = true ∧ (aw3.2.look 1).2.long = [[120]]) := Lib.hid (by
  have h := HA.out
  simp only [Bool.and_eq_true, beq_iff_eq] at h
  obtain ⟨⟨⟨⟨⟨h1, h2⟩, h3⟩, h4⟩, h5⟩, h6⟩ := h
  exact ⟨h1, h2, h3, h4, h5, h6⟩)
 clear hb0 hb1 HA
 go_enter Try.func8, Try.ntmps8
 go_wp2_with fail
 refine (begun_any (A := []) 1 (by omega) (fun b hb => by cases hb)).mono ?_
 rintro e w1 ⟨c, A1, Z1, rfl, hs1, hm1⟩
 have H1 := Lib.hid hs1
 have M1 := Lib.hid hm1
 clear hs1 hm1
 go_wp2_with fail
 refine (calm_any H1.out HB0.out.sv 60 (by omega) (by omega) (by omega)).mono ?_
 rintro e w2 ⟨he, hs2⟩
 rw [show (Mn.calm 1 60 (Mn.begun 1)).1 = true from HAS.out.1] at he
 subst he
 obtain ⟨A2, Z2, ⟨Y, rs, ds, ls, Xs, vr, vd, gu, qv, gv, lgv, hs, hz⟩, hm2⟩ := hs2
 obtain ⟨gr, kr, evr, hkr, hrow⟩ := ptr_cell hs.rr (by omega)
 subst evr
 have hc0 : w2.cell? ⟨c, 0, none⟩ = some (.slice (some ⟨gr, 0, none⟩) 1 kr) := by rw [cell_heap hs.cell]; rfl
 have hr0 := hrow 0 (by omega)
 have HLD := Lib.hid (leads_sy hs hz 0 (by omega) HAS.out.2.1)
 have HLE : Hid ((Mn.calm 1 60 (Mn.begun 1)).2.leads 0 = true) := Lib.hid HAS.out.2.2.1
 have M2 := Lib.hid (M1.out.trans hm2)
 clear hs hz hm2 hrow
 go_wp2_with fail
 refine HLD.out.mono ?_
 rintro e w3 ⟨he, hs3⟩
 rw [HLE.out] at he
 subst he
 obtain ⟨A3, Z3, hs3, hm3⟩ := hs3
 have H3 : Hid (Sy w3 A3 Z3 c 1 aw2) := Lib.hid hs3
 have M3 := Lib.hid (M2.out.trans hm3)
 clear hs3 hm3 HLD
 have kc := fun (w : World) (C : Array Value) (n c : Nat) => Lib.run_convert_bytes_const (P := Try.prog) w 29 5 C n c Try.underlying29 Try.underlying5
 have hb4 : Below w3.heap.size w3 (w3.alloc (.cells #[.int .u8 120] 5 (1, 2))) := (Below.refl _ _).alloc (Nat.le_refl _) _
 have H4 := Lib.hid (H3.out.below hb4)
 have M4 := Lib.hid (M3.out.trans (Mv.below hb4))
 have HIB : Hid (Imm (w3.alloc (.cells #[.int .u8 120] 5 (1, 2))) A3 (.slice (some ⟨w3.heap.size, 0, none⟩) 1 1) [120]) := Lib.hid ⟨_, _, rfl, isB_new w3 [120] #[.int .u8 120] rfl 5 (1, 2) w3.heap.size rfl 1 rfl 1, Nat.le_refl _, fun p hp => by
  cases hp
  obtain ⟨Y, rs, ds, ls, Xs, vr, vd, gu, qv, gv, lgv, hs, hz⟩ := H3.out
  exact ⟨fun hm => by have := hs.alt _ hm; simp at this, by simp⟩⟩
 have hb2 : BInv 1 (0 + 60 * 1) 1 aw2 := by
  have e : aw2 = aw1.2.leadsS 0 := rfl
  rw [e, (leadsS_same HB1.out 0 (by omega) HAS.out.2.1).1]
  exact HB1.out
 have HB3 : Hid (BInv 1 (0 + 60 * 1 + 1) (1 + 1) (aw2.act 1 ⟨6, 0, 0, 0, [120]⟩)) := Lib.hid (hb2.act _)
 have HB2 := Lib.hid hb2
 have HB4 : Hid (BInv 1 (0 + 60 * 1 + 1 + 1 * 1) (1 + 1) aw3.2) := Lib.hid (HB3.out.calm 1)
 clear hb4 hb2
 go_wp2_with fail
 refine (do_any H4.out HB2.out ⟨6, 0, 0, 0, [120]⟩ _ _ (.inr HIB.out) (by decide) ⟨by decide, by decide⟩ (by omega) (by omega)).mono ?_
 rintro e w5 ⟨rfl, A5, Z5, hs5, hm5⟩
 have H5 := Lib.hid hs5
 have M5 := Lib.hid (M4.out.trans hm5)
 clear hs5 hm5
 go_wp2_with fail
 refine (calm_any H5.out HB3.out.sv 1 (by omega) (by omega) (by omega)).mono ?_
 rintro e w6 ⟨he, A6, Z6, hs6, hm6⟩
 rw [show (Mn.calm 1 1 (aw2.act 1 ⟨6, 0, 0, 0, [120]⟩)).1 = true from HAS.out.2.2.2.1] at he
 subst he
 have H6 : Hid (Sy w6 A6 Z6 c 1 aw3.2) := Lib.hid hs6
 have M6 := Lib.hid (M5.out.trans hm6)
 clear hs6 hm6
 go_wp2_with fail
 refine (look_any H6.out (fun i hi hu => (HB4.out.up i hi hu).1.wf) (by omega)).mono ?_
 rintro e w7 ⟨he, A7, Z7, ⟨Y7, rs7, ds7, ls7, Xs7, vr7, vd7, gu7, qv7, gv7, lgv7, hs7, hz7⟩, hm7⟩
 rw [HAS.out.2.2.2.2.1] at he
 subst he
 have hlg := hs7.long
 rw [HAS.out.2.2.2.2.2] at hlg
 obtain ⟨al, cal, e9, _, _, hatA⟩ := immL_at hlg
 obtain ⟨gl, e8, hatB⟩ := hatA 0 (by decide)
 subst e8
 subst e9
 obtain ⟨xa, xm, xk, hx1, hx2⟩ := hatB w7 (Below.refl _ _)
 have hc5 : w7.cell? ⟨c, 5, none⟩ = some (.slice (some ⟨gl, 0, none⟩) 1 cal) := by rw [cell_heap hs7.cell]; rfl
 have hx1 : w7.cell? ⟨gl, 0, none⟩ = some (.slice xa xm xk) := hx1
 have hcv : (convert 29 9 (.slice xa xm xk)).run Try.prog w7 = .ok (.string (strB [120])) w7 := conv_any _ _ _ _ _ hx2
 have heq : ((strB [120]).toList == [120]) = true := by decide +kernel
 have HM7 : Hid (Below w.heap.size w w7) := Lib.hid (((M6.out.trans hm7).mv.only).below (Nat.le_refl _) (fun k hk => by cases hk))
 clear hs7 hz7 hm7 hlg hatA hatB hx2
 generalize strB [120] = sx at *
 go_wp2_with fail
 go_ret
 exact ⟨rfl, HM7.out⟩
end
end Go.Proofs.Ytnicaicjgaoolaa
namespace Go.Proofs.Ytnicaicjgaoolaa
open Go.RowKit Go.ChangeMaps Go.WideMaps Go.Maps
set_option maxRecDepth 20000
/-- all of it in a world behind w; blocks that stay -/
structure LsA (w wr : World) (A Z : List Nat) (c k : Nat) (S : Mn) (Ts : List (Nat × Obj)) : Prop where
 sy : Sy wr A Z c k S
 bel : Below w.heap.size w wr
 age : ∀ b ∈ A, w.heap.size ≤ b
 ts : ∀ p ∈ Ts, p.1 ∈ A ∧ p.1 ∉ Z ∧ wr.heap[p.1]? = some p.2
structure Ls (w wr : World) (c k : Nat) (S : Mn) (Ts : List (Nat × Obj)) : Prop where
 ex : ∃ A Z, LsA w wr A Z c k S Ts
section
variable {w wr w2 : World} {A Z : List Nat} {c k : Nat} {S S' : Mn} {Ts : List (Nat × Obj)}
theorem LsA.step (h : LsA w wr A Z c k S Ts) (hp : SyP wr w2 A Z c k S') : Ls w w2 c k S' Ts := by
 obtain ⟨A2, Z2, h2, m2⟩ := hp
 have hz := h.sy.zA
 refine ⟨A2, Z2, h2, h.bel.trans (m2.mv.only.below h.bel.size (fun b hb => h.age b (hz b hb))), fun b hb => ?_, fun p hp => ?_⟩
 ·rcases m2.ext b hb with h1 | h1
  ·exact h.age b h1
  ·exact Nat.le_trans h.bel.size h1
 ·obtain ⟨h1, h3, h4⟩ := h.ts p hp
  refine ⟨m2.sub _ h1, fun hm => ?_, m2.mv.only.keeps h4 h3⟩
  rcases m2.mv.gr _ hm with h5 | h5
  ·exact h3 h5
  ·have := lt_of_heap h4; omega
theorem LsA.ls (h : LsA w wr A Z c k S Ts) : Ls w wr c k S Ts := ⟨A, Z, h⟩
theorem LsA.below (h : LsA w wr A Z c k S Ts) (hb : Below wr.heap.size wr w2) : LsA w w2 A Z c k S Ts := ⟨h.sy.below hb, h.bel.trans (hb.mono h.bel.size), h.age, fun p hp => ⟨(h.ts p hp).1, (h.ts p hp).2.1, (Only.ofBelow hb []).keeps (h.ts p hp).2.2 (by simp)⟩⟩
/-- the law's own at the beginning -/
theorem LsA.begun {A2 : List Nat} (hb : Below w.heap.size w wr) (h : Sy w2 A Z c k S) (hm : Mv [] A [] Z wr w2) : LsA w w2 A Z c k S [] :=
 ⟨h, hb.trans ((hm.mv.only.below (Nat.le_refl _) (fun b hb => by cases hb)).mono hb.size), fun b hb2 => by
  rcases hm.ext b hb2 with h1 | h1
  ·cases h1
  ·exact Nat.le_trans hb.size h1, fun p hp => by cases hp⟩
/-- a new block stands beside it -/
theorem LsA.beside (h : LsA w wr A Z c k S Ts) (o : Obj) : LsA w (wr.alloc o) (A ++ [wr.heap.size]) Z c k S ((wr.heap.size, o) :: Ts) := by
 have hb : Below wr.heap.size wr (wr.alloc o) := (Below.refl _ _).alloc (Nat.le_refl _) _
 have hZ := h.sy.zA
 obtain ⟨Y, rs, ds, ls, Xs, vr, vd, gu, qv, gv, lv, hs, hz⟩ := id h.sy
 have hext : Ext A (A ++ [wr.heap.size]) wr := fun b hb => by
  rcases List.mem_append.1 hb with h1 | h1
  ·exact .inl h1
  ·exact .inr (by rw [List.mem_singleton.1 h1]; exact Nat.le_refl _)
 refine ⟨h.sy.keep (Only.ofBelow hb []) (fun b hb => by cases hb) (fun b _ hm => by cases hm) hext (fun b hb => List.mem_append_left _ hb) (fun b hb2 => ?_), h.bel.trans (hb.mono h.bel.size), fun b hb2 => ?_, fun p hp => ?_⟩
 ·rcases List.mem_append.1 hb2 with h1 | h1
  ·have := hs.alt b h1; simp; omega
  ·rw [List.mem_singleton.1 h1]; simp
 ·rcases List.mem_append.1 hb2 with h1 | h1
  ·exact h.age b h1
  ·rw [List.mem_singleton.1 h1]; exact h.bel.size
 ·rcases List.mem_cons.1 hp with rfl | hp
  ·refine ⟨List.mem_append_right _ (by simp), fun hm => ?_, heap_new _ _⟩
   have := hs.alt _ (hZ _ hm)
   simp at this
  ·exact ⟨List.mem_append_left _ (h.ts p hp).1, (h.ts p hp).2.1, heap_old (h.ts p hp).2.2 o⟩
/-- the first block beside it is written -/
theorem LsA.write {T i : Nat} {cur : Array Value} {t : TypeId} (h : LsA w wr A Z c k S [(T, .cells cur t (0, 0))]) (u : Value) : LsA w (wr.setCell ⟨T, i, none⟩ u) A Z c k S [(T, .cells (cur.setIfInBounds i u) t (0, 0))] := by
 have ho : Only [T] wr (wr.setCell ⟨T, i, none⟩ u) := (Only.refl _ _).setCell (by simp) _
 obtain ⟨h1, h2, h3⟩ := h.ts _ List.mem_cons_self
 obtain ⟨Y, rs, ds, ls, Xs, vr, vd, gu, qv, gv, lv, hs, hz⟩ := id h.sy
 refine ⟨h.sy.keep ho (fun b hb => by rw [List.mem_singleton.1 hb]; exact h1) (fun b hb hm => h2 (by rw [List.mem_singleton.1 hm] at hb; exact hb)) (Ext.refl _ _) (fun b hb => hb) (fun b hb => by simpa using hs.alt b hb), h.bel.trans (ho.below h.bel.size (fun b hb => by rw [List.mem_singleton.1 hb]; exact h.age T h1)), h.age, fun p hp => ?_⟩
 rw [List.mem_singleton.1 hp]
 exact ⟨h1, h2, heap_set h3 i u⟩
/-- an act's record avoids all that the law may turn -/
theorem AtAc.z {b off : Nat} {x : Ac} (h : AtAc w b off x) (hA : ∀ b ∈ A, w.heap.size ≤ b) (hb : Below w.heap.size w wr) : ∃ bo bc, wr.cell? ⟨b, off + 4, none⟩ = some (.slice bo x.B.length bc) ∧ ImmZ wr A (.slice bo x.B.length bc) x.B := by
 obtain ⟨bo, bc, h1, h2, h3⟩ := h.c4
 refine ⟨bo, bc, cell_later hb h1, ?_⟩
 by_cases h0 : x.B.length = 0
 ·exact .inl h0
 ·refine .inr ⟨bo, bc, rfl, h2.below hb, h3, fun p hp => ?_⟩
  obtain ⟨k1, k2, k3⟩ := h2
  rcases k3 with k3 | ⟨b', off', e, k4⟩
  ·omega
  ·rw [e] at hp
   cases hp
   have h9 := World.block_lt_of_cell? w _ (k4 0 (by omega))
   have h9 : b' < w.heap.size := h9
   exact ⟨fun hm => by have := hA _ hm; show False; simp only at this; omega, Nat.lt_of_lt_of_le h9 hb.size⟩
end
end Go.Proofs.Ytnicaicjgaoolaa
