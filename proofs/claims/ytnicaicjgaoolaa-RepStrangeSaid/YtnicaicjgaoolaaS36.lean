/-
  What the proof of the law leans on: contracts of the program's functions, one behind another. No condition.
-/
import Derived.Lib.SlBytesConst
import Derived.Test.YtnicaicjgaoolaaS35
set_option linter.unusedVariables false
set_option linter.unusedSimpArgs false
namespace Go.Proofs.Ytnicaicjgaoolaa
open Go.RowKit Go.ChangeMaps Go.WideMaps Go.Maps
set_option maxRecDepth 20000
section
variable {w : World} {A Z : List Nat} {c n cl lv : Nat} {S : Mn}
theorem do_any (h : Sy w A Z c n S) (hi : BInv n cl lv S) (x : Ac) (bo : Option Addr) (bc : Nat) (hb : ImmZ w A (.slice bo x.B.length bc) x.B) (hx : x.B.length ≤ 300) (hp : -9223372036854775808 ≤ x.P ∧ x.P ≤ 9223372036854775807) (hcl : cl ≤ 900000) (hlv : lv ≤ 900000) :
  Calls Try.prog 11 #[.pointer (some ⟨c, 0, none⟩), .agg #[.int .i64 x.op, .int .i64 x.N, .int .i64 x.K, .int .i64 x.P, .slice bo x.B.length bc]] w fun e w' => e = .returned (.tuple #[]) ∧ SyP w w' A Z c n (S.act n x) := by
 obtain ⟨o, N, K, P, B⟩ := x
 unfold Mn.act
 simp only
 by_cases h0 : o = 0
 ·subst h0
  rw [if_pos rfl]
  exact do_tick h hi.sv N K P bo B.length bc hi.n1 hcl
 rw [if_neg h0]
 by_cases h4 : o = 4
 ·subst h4
  rw [if_pos rfl]
  refine do_crash h (fun i hin => ?_) N K P hp.1 hp.2 bo B.length bc hi.n1
  cases hu : (S.at i).up with
  | true =>
   have h9 := (hi.up i hin hu).1
   refine ⟨h9.sf, ?_⟩
   have := h9.wf.tot; have := h9.wf.room; omega
  | false =>
   have h9 := hi.dn i hin hu
   refine ⟨h9.sf, ?_⟩
   have := h9.tot; have := h9.room; omega
 rw [if_neg h4]
 by_cases h5 : o = 5
 ·subst h5
  rw [if_pos rfl]
  exact do_back h (fun i hin hu => ⟨hi.dn i hin hu, (hi.sv.id i hin).2, (hi.liv i hin).1, by have := (hi.liv i hin).2; omega⟩) N K P bo B.length bc hi.n1 hi.n5
 rw [if_neg h5]
 by_cases h6 : o = 6
 ·subst h6
  rw [if_pos rfl]
  exact do_submit h hi.sv N K P bo B.length bc B hb rfl (by have : B.length ≤ 300 := hx; omega) (by have := hi.gn; omega) hi.n1
 rw [if_neg h6]
 by_cases h1 : o = 1
 ·subst h1
  rw [if_pos rfl]
  exact do_fetch h hi.sv N K P bo B.length bc hi.n1
 rw [if_neg h1]
 by_cases h2 : o = 2
 ·subst h2
  rw [if_pos rfl]
  exact do_lose h hi.sv N K P bo B.length bc hi.n1
 rw [if_neg h2]
 by_cases h3 : o = 3
 ·subst h3
  rw [if_pos rfl]
  exact do_twice h hi.sv N K P bo B.length bc hi.n1
 rw [if_neg h3]
 exact (do_other h hi.sv o N K P bo B.length bc hi.n1 h0 h1 h2 h3 h4 h5 h6)
end
end Go.Proofs.Ytnicaicjgaoolaa
namespace Go.Proofs.Ytnicaicjgaoolaa
set_option maxRecDepth 100000
def aw1 : Bool × Mn := Mn.calm 1 60 (Mn.begun 1)
def aw2 : Mn := aw1.2.set 0 ⟨(leadsM (aw1.2.at 0).s (aw1.2.at 0).k).2, (aw1.2.at 0).k, true⟩
def aw3 : Bool × Mn := Mn.calm 1 1 (aw2.act 1 ⟨6, 0, 0, 0, [120]⟩)
def awakeB : Bool := aw1.1 && (aw1.2.at 0).up && (leadsM (aw1.2.at 0).s (aw1.2.at 0).k).1 && aw3.1 && (aw3.2.look 1).1 && ((aw3.2.look 1).2.long == [[120]])
theorem awakeB_true : awakeB = true := by decide +kernel
end Go.Proofs.Ytnicaicjgaoolaa
namespace Go.Proofs.Ytnicaicjgaoolaa
open Go.RowKit Go.ChangeMaps Go.WideMaps Go.Maps
set_option maxRecDepth 20000
def Mn.leads (S : Mn) (i : Nat) : Bool := (leadsM (S.at i).s (S.at i).k).1
def Mn.leadsS (S : Mn) (i : Nat) : Mn := S.set i ⟨(leadsM (S.at i).s (S.at i).k).2, (S.at i).k, true⟩
/-- where a node is up its being done is known -/
theorem leads_same {s : Rp} {k : Dk} (h1 : k.off = false) (h2 : s.lives = k.lives) : (leadsM s k).1 = (s.leads && !s.done) ∧ (leadsM s k).2 = s := by
 have hd : doneM s k = s.done := by
  unfold doneM
  rw [h1, h2]; simp
 have he : doneS s k = s := by unfold doneS; rw [hd]
 unfold leadsM
 by_cases hl : s.leads = true
 ·rw [if_pos hl]
  exact ⟨by rw [hd, hl]; rfl, he⟩
 ·rw [if_neg hl]
  exact ⟨by simp at hl; rw [hl]; rfl, rfl⟩
theorem set_same {n cl lv : Nat} {S : Mn} (h : BInv n cl lv S) (i : Nat) (hi : i < n) (hu : (S.at i).up = true) : S.set i ⟨(S.at i).s, (S.at i).k, true⟩ = S := by
 have e : (⟨(S.at i).s, (S.at i).k, true⟩ : Nod) = S.at i := by rw [← hu]
 rw [e]
 have hl : i < S.nodes.length := by rw [h.sv.nl]; exact hi
 have e2 : S.at i = S.nodes[i] := by unfold Mn.at; simp [List.getD_eq_getElem?_getD, hl]
 unfold Mn.set
 rw [e2, List.set_getElem_self]
theorem leadsS_same {n cl lv : Nat} {S : Mn} (h : BInv n cl lv S) (i : Nat) (hi : i < n) (hu : (S.at i).up = true) : S.leadsS i = S ∧ S.leads i = ((S.at i).s.leads && !(S.at i).s.done) := by
 have h1 := h.up i hi hu
 have h2 := leads_same h1.1.off h1.2
 unfold Mn.leadsS Mn.leads
 rw [h2.2, h2.1]
 exact ⟨set_same h i hi hu, rfl⟩
section
variable {w w' : World} {A A' Y Z Z' : List Nat} {c n cl lv : Nat} {S : Mn} {rs ds ls : Nat → Nat} {Xs : Nat → List Nat} {vr vd : Value} {gu : Nat} {qv gv lgv : Value}
theorem leads_sy (h : SyC w A Y c n S rs ds ls Xs vr vd gu qv gv lgv) (hz : ∀ b, b ∈ Z ↔ b ∈ Y ∨ ∃ i, i < n ∧ b ∈ Xs i) (i : Nat) (hi : i < n) (hu : (S.at i).up = true) :
  Calls Try.prog 15 #[.pointer (some ⟨rs i, 0, none⟩)] w fun e w' => e = .returned (.bool (S.leads i)) ∧ SyP w w' A Z c n (S.leadsS i) := by
 have hn := (h.node i hi).up hu
 refine (leads_any hn).mono ?_
 rintro e w2 ⟨rfl, hn2, ho⟩
 refine ⟨rfl, ?_⟩
 have hm : Mv A A (Xs i) (Xs i) w w2 := Mv.only ho (fun b hb => by rw [List.mem_singleton.1 hb]; exact hn.rX)
 obtain ⟨Z', hz', hmz⟩ := mv_call (Y := Y) hi hz hm
 have hs := h.call (nd := ⟨(leadsM (S.at i).s (S.at i).k).2, (S.at i).k, true⟩) hi hm ⟨fun _ => hn2, (fun e => by cases e), hn2.xA⟩ hu.symm hn2.alt
 exact ⟨A, Z', ⟨Y, rs, ds, ls, setF Xs i (Xs i), vr, vd, gu, qv, gv, lgv, hs, hz'⟩, hmz⟩
end
end Go.Proofs.Ytnicaicjgaoolaa
namespace Go.Proofs.Ytnicaicjgaoolaa
open Go.RowKit Go.ChangeMaps Go.WideMaps Go.Maps
set_option maxRecDepth 20000
section
variable {w : World}
set_option maxHeartbeats 4000000 in
theorem awake_any : Calls Try.prog 8 #[] w fun e w' => e = .returned (.bool true) ∧ Below w.heap.size w w' := by
 have HA := Lib.hid awakeB_true
 unfold awakeB at HA
 have hb0 := binv_begun 1 (Nat.le_refl _) (by omega)
 have hb1 : BInv 1 (0 + 60 * 1) 1 aw1.2 := hb0.calm 60
 have HB0 := Lib.hid hb0
 have HB1 := Lib.hid hb1
 have HAS : Hid (aw1.1 = true ∧ (aw1.2.at 0).up = true ∧ aw1.2.leads 0 = true ∧ aw3.1 = true ∧ (aw3.2.look 1).1 = true ∧ (aw3.2.look 1).2.long = [[120]]) := Lib.hid (by
  have h := HA.out
  simp only [Bool.and_eq_true, beq_iff_eq] at h
  obtain ⟨⟨⟨⟨⟨h1, h2⟩, h3⟩, h4⟩, h5⟩, h6⟩ := h
  exact ⟨h1, h2, h3, h4, h5, h6⟩)
 clear hb0 hb1 HA
 go_enter Try.func8, Try.ntmps8
 go_wp2_with fail
 refine (begun_any (A := []) 1 (by omega) (fun b hb => by cases hb)).mono ?_
 rintro e w1 ⟨c, A1, Z1, rfl, hs1, hm1⟩
 have H1 := Lib.hid hs1
 have M1 := Lib.hid hm1
 clear hs1 hm1
 go_wp2_with fail
 refine (calm_any H1.out HB0.out.sv 60 (by omega) (by omega) (by omega)).mono ?_
 rintro e w2 ⟨he, hs2⟩
 rw [show (Mn.calm 1 60 (Mn.begun 1)).1 = true from HAS.out.1] at he
 subst he
 obtain ⟨A2, Z2, ⟨Y, rs, ds, ls, Xs, vr, vd, gu, qv, gv, lgv, hs, hz⟩, hm2⟩ := hs2
 obtain ⟨gr, kr, evr, hkr, hrow⟩ := ptr_cell hs.rr (by omega)
 subst evr
 have hc0 : w2.cell? ⟨c, 0, none⟩ = some (.slice (some ⟨gr, 0, none⟩) 1 kr) := by rw [cell_heap hs.cell]; rfl
 have hr0 := hrow 0 (by omega)
 have HLD := Lib.hid (leads_sy hs hz 0 (by omega) HAS.out.2.1)
 have HLE : Hid ((Mn.calm 1 60 (Mn.begun 1)).2.leads 0 = true) := Lib.hid HAS.out.2.2.1
 have M2 := Lib.hid (M1.out.trans hm2)
 clear hs hz hm2 hrow
 go_wp2_with fail
 refine HLD.out.mono ?_
 rintro e w3 ⟨he, hs3⟩
 rw [HLE.out] at he
 subst he
 obtain ⟨A3, Z3, hs3, hm3⟩ := hs3
 have H3 : Hid (Sy w3 A3 Z3 c 1 aw2) := Lib.hid hs3
 have M3 := Lib.hid (M2.out.trans hm3)
 clear hs3 hm3 HLD
 have kc := fun (w : World) (C : Array Value) (n c : Nat) => Lib.run_convert_bytes_const (P := Try.prog) w 29 5 C n c Try.underlying29 Try.underlying5
 have hb4 : Below w3.heap.size w3 (w3.alloc (.cells #[.int .u8 120] 5 (1, 2))) := (Below.refl _ _).alloc (Nat.le_refl _) _
 have H4 := Lib.hid (H3.out.below hb4)
 have M4 := Lib.hid (M3.out.trans (Mv.below hb4))
 have HIB : Hid (Imm (w3.alloc (.cells #[.int .u8 120] 5 (1, 2))) A3 (.slice (some ⟨w3.heap.size, 0, none⟩) 1 1) [120]) := Lib.hid ⟨_, _, rfl, isB_new w3 [120] #[.int .u8 120] rfl 5 (1, 2) w3.heap.size rfl 1 rfl 1, Nat.le_refl _, fun p hp => by
  cases hp
  obtain ⟨Y, rs, ds, ls, Xs, vr, vd, gu, qv, gv, lgv, hs, hz⟩ := H3.out
  exact ⟨fun hm => by have := hs.alt _ hm; simp at this, by simp⟩⟩
 have hb2 : BInv 1 (0 + 60 * 1) 1 aw2 := by
  have e : aw2 = aw1.2.leadsS 0 := rfl
  rw [e, (leadsS_same HB1.out 0 (by omega) HAS.out.2.1).1]
  exact HB1.out
 have HB3 : Hid (BInv 1 (0 + 60 * 1 + 1) (1 + 1) (aw2.act 1 ⟨6, 0, 0, 0, [120]⟩)) := Lib.hid (hb2.act _)
 have HB2 := Lib.hid hb2
 have HB4 : Hid (BInv 1 (0 + 60 * 1 + 1 + 1 * 1) (1 + 1) aw3.2) := Lib.hid (HB3.out.calm 1)
 clear hb4 hb2
 go_wp2_with fail
 refine (do_any H4.out HB2.out ⟨6, 0, 0, 0, [120]⟩ _ _ (.inr HIB.out) (by decide) ⟨by decide, by decide⟩ (by omega) (by omega)).mono ?_
 rintro e w5 ⟨rfl, A5, Z5, hs5, hm5⟩
 have H5 := Lib.hid hs5
 have M5 := Lib.hid (M4.out.trans hm5)
 clear hs5 hm5
 go_wp2_with fail
 refine (calm_any H5.out HB3.out.sv 1 (by omega) (by omega) (by omega)).mono ?_
 rintro e w6 ⟨he, A6, Z6, hs6, hm6⟩
 rw [show (Mn.calm 1 1 (aw2.act 1 ⟨6, 0, 0, 0, [120]⟩)).1 = true from HAS.out.2.2.2.1] at he
 subst he
 have H6 : Hid (Sy w6 A6 Z6 c 1 aw3.2) := Lib.hid hs6
 have M6 := Lib.hid (M5.out.trans hm6)
 clear hs6 hm6
 go_wp2_with fail
 refine (look_any H6.out (fun i hi hu => (HB4.out.up i hi hu).1.wf) (by omega)).mono ?_
 rintro e w7 ⟨he, A7, Z7, ⟨Y7, rs7, ds7, ls7, Xs7, vr7, vd7, gu7, qv7, gv7, lgv7, hs7, hz7⟩, hm7⟩
 rw [HAS.out.2.2.2.2.1] at he
 subst he
 have hlg := hs7.long
 rw [HAS.out.2.2.2.2.2] at hlg
 obtain ⟨al, cal, e9, _, _, hatA⟩ := immL_at hlg
 obtain ⟨gl, e8, hatB⟩ := hatA 0 (by decide)
 subst e8
 subst e9
 obtain ⟨xa, xm, xk, hx1, hx2⟩ := hatB w7 (Below.refl _ _)
 have hc5 : w7.cell? ⟨c, 5, none⟩ = some (.slice (some ⟨gl, 0, none⟩) 1 cal) := by rw [cell_heap hs7.cell]; rfl
 have hx1 : w7.cell? ⟨gl, 0, none⟩ = some (.slice xa xm xk) := hx1
 have hcv : (convert 29 9 (.slice xa xm xk)).run Try.prog w7 = .ok (.string (strB [120])) w7 := conv_any _ _ _ _ _ hx2
 have heq : ((strB [120]).toList == [120]) = true := by decide +kernel
 have HM7 : Hid (Below w.heap.size w w7) := Lib.hid (((M6.out.trans hm7).mv.only).below (Nat.le_refl _) (fun k hk => by cases hk))
 clear hs7 hz7 hm7 hlg hatA hatB hx2
 generalize strB [120] = sx at *
 go_wp2_with fail
 go_ret
 exact ⟨rfl, HM7.out⟩
end
end Go.Proofs.Ytnicaicjgaoolaa
namespace Go.Proofs.Ytnicaicjgaoolaa
open Go.RowKit Go.ChangeMaps Go.WideMaps Go.Maps
set_option maxRecDepth 20000
/-- all of it in a world behind w; blocks that stay -/
structure LsA (w wr : World) (A Z : List Nat) (c k : Nat) (S : Mn) (Ts : List (Nat × Obj)) : Prop where
 sy : Sy wr A Z c k S
 bel : Below w.heap.size w wr
 age : ∀ b ∈ A, w.heap.size ≤ b
 ts : ∀ p ∈ Ts, p.1 ∈ A ∧ p.1 ∉ Z ∧ wr.heap[p.1]? = some p.2
structure Ls (w wr : World) (c k : Nat) (S : Mn) (Ts : List (Nat × Obj)) : Prop where
 ex : ∃ A Z, LsA w wr A Z c k S Ts
section
variable {w wr w2 : World} {A Z : List Nat} {c k : Nat} {S S' : Mn} {Ts : List (Nat × Obj)}
/-- the law's own at the beginning -/
theorem LsA.begun {A2 : List Nat} (hb : Below w.heap.size w wr) (h : Sy w2 A Z c k S) (hm : Mv [] A [] Z wr w2) : LsA w w2 A Z c k S [] :=
 ⟨h, hb.trans ((hm.mv.only.below (Nat.le_refl _) (fun b hb => by cases hb)).mono hb.size), fun b hb2 => by
  rcases hm.ext b hb2 with h1 | h1
  ·cases h1
  ·exact Nat.le_trans hb.size h1, fun p hp => by cases hp⟩
/-- an act's record avoids all that the law may turn -/
theorem AtAc.z {b off : Nat} {x : Ac} (h : AtAc w b off x) (hA : ∀ b ∈ A, w.heap.size ≤ b) (hb : Below w.heap.size w wr) : ∃ bo bc, wr.cell? ⟨b, off + 4, none⟩ = some (.slice bo x.B.length bc) ∧ ImmZ wr A (.slice bo x.B.length bc) x.B := by
 obtain ⟨bo, bc, h1, h2, h3⟩ := h.c4
 refine ⟨bo, bc, cell_later hb h1, ?_⟩
 by_cases h0 : x.B.length = 0
 ·exact .inl h0
 ·refine .inr ⟨bo, bc, rfl, h2.below hb, h3, fun p hp => ?_⟩
  obtain ⟨k1, k2, k3⟩ := h2
  rcases k3 with k3 | ⟨b', off', e, k4⟩
  ·omega
  ·rw [e] at hp
   cases hp
   have h9 := World.block_lt_of_cell? w _ (k4 0 (by omega))
   have h9 : b' < w.heap.size := h9
   exact ⟨fun hm => by have := hA _ hm; show False; simp only at this; omega, Nat.lt_of_lt_of_le h9 hb.size⟩
end
end Go.Proofs.Ytnicaicjgaoolaa
