/-
  What is read of bytes that were written: plain lists, no program in sight.
-/
import Derived.Test.YtpikdeikcmdcmaaFail
namespace Go.Proofs.Ytpikdeikcmdcmaa
open Go.RowKit
def In64 (z : Int) : Prop := -9223372036854775808 ≤ z ∧ z ≤ 9223372036854775807
/-- a result that may be: its numbers are, it is not too long -/
structure GoodR (x : Re) : Prop where
  err : In64 x.err
  path : x.path.size ≤ 20000
  data : x.data.size ≤ 20000
  names : x.names.length ≤ 500
  each : ∀ s ∈ x.names, s.size ≤ 20000
  made : In64 x.made
  changed : In64 x.changed
  version : In64 x.version
  kids : In64 x.kids
  owner : In64 x.owner
  length : In64 x.length
  count : In64 x.count
structure GoodP (r : Rp) : Prop where
  num : In64 r.num
  zxid : In64 r.zxid
  err : In64 r.err
  place : In64 r.place
  res : r.res.length ≤ 16
  each : ∀ x ∈ r.res, GoodR x
theorem GoodR.fit {x : Re} (h : GoodR x) : FitR x := ⟨by have := h.path; omega, by have := h.data; omega, by have := h.names; omega, fun s hs => by have := h.each s hs; omega⟩
theorem snoc_ind {α : Type} {P : List α → Prop} (h0 : P []) (h1 : ∀ l x, P l → P (l ++ [x])) (l : List α) : P l := by
  have key : ∀ m : List α, P m.reverse := by
    intro m
    induction m with
    | nil => exact h0
    | cons x m ih => rw [List.reverse_cons]; exact h1 _ _ ih
  have := key l.reverse
  rwa [List.reverse_reverse] at this
theorem rTs_txts (ns : List ByteArray) (rest : List UInt8) (bad : Bool) (h : ∀ s ∈ ns, s.size ≤ 20000) : rTs ns.length (ns.flatMap txt ++ rest) bad = ⟨ns, rest, bad⟩ := by
  revert rest h
  refine snoc_ind (P := fun ns => ∀ rest, (∀ s ∈ ns, s.size ≤ 20000) → rTs ns.length (ns.flatMap txt ++ rest) bad = ⟨ns, rest, bad⟩) ?_ ?_ ns
  · intro rest _; rfl
  · intro ns s ih rest h
    have h1 := ih (txt s ++ rest) (fun t ht => h t (by simp [ht]))
    rw [List.length_append, List.length_singleton]
    simp only [rTs]
    rw [List.flatMap_append, List.append_assoc]
    simp only [List.flatMap_cons, List.flatMap_nil, List.append_nil]
    rw [h1, rT_txt s rest bad 20000 (by have := h s (by simp); omega) (by omega)]
theorem r7_be8s (a b c d e f g : Int) (rest : List UInt8) (bad : Bool) (ha : In64 a) (hb : In64 b) (hc : In64 c) (hd : In64 d) (he : In64 e) (hf : In64 f) (hg : In64 g) :
    r7 (be8s [a, b, c, d, e, f, g] ++ rest) bad = ⟨⟨a, b, c, d, e, f, g⟩, rest, bad⟩ := by
  have e0 : be8s [a, b, c, d, e, f, g] ++ rest = be8 a ++ (be8 b ++ (be8 c ++ (be8 d ++ (be8 e ++ (be8 f ++ (be8 g ++ rest)))))) := by simp [be8s]
  rw [e0]
  simp only [r7]
  rw [rI_be8 a _ _ ha.1 ha.2]
  simp only
  rw [rI_be8 b _ _ hb.1 hb.2]
  simp only
  rw [rI_be8 c _ _ hc.1 hc.2]
  simp only
  rw [rI_be8 d _ _ hd.1 hd.2]
  simp only
  rw [rI_be8 e _ _ he.1 he.2]
  simp only
  rw [rI_be8 f _ _ hf.1 hf.2]
  simp only
  rw [rI_be8 g _ _ hg.1 hg.2]
theorem rOne_resB (x : Re) (rest : List UInt8) (bad : Bool) (h : GoodR x) : rOne (resB x ++ rest) bad = ⟨x, rest, bad⟩ := by
  obtain ⟨xe, xp, xd, xn, xa, xb, xc, xg, xh, xi, xj⟩ := x
  have e0 : resB ⟨xe, xp, xd, xn, xa, xb, xc, xg, xh, xi, xj⟩ ++ rest = be8 xe ++ (txt xp ++ (txt xd ++ (be8 (xn.length : Int) ++ (xn.flatMap txt ++ (be8s [xa, xb, xc, xg, xh, xi, xj] ++ rest))))) := by simp [resB]
  have hn := h.names
  simp only at hn
  rw [e0]
  simp only [rOne]
  rw [rI_be8 xe _ _ h.err.1 h.err.2]
  simp only
  rw [rT_txt xp _ _ _ (by have := h.path; simp only at this; omega) (by omega)]
  simp only
  rw [rT_txt xd _ _ _ (by have := h.data; simp only at this; omega) (by omega)]
  simp only
  rw [rC_be8 _ _ _ _ (by omega) (by omega) (by omega)]
  simp only [Int.toNat_natCast]
  rw [rTs_txts xn _ _ h.each]
  simp only
  rw [r7_be8s _ _ _ _ _ _ _ _ _ h.made h.changed h.version h.kids h.owner h.length h.count]
theorem rAll_ress (l : List Re) (rest : List UInt8) (bad : Bool) (h : ∀ x ∈ l, GoodR x) : rAll l.length (l.flatMap resB ++ rest) bad = ⟨l, rest, bad⟩ := by
  revert rest h
  refine snoc_ind (P := fun l => ∀ rest, (∀ x ∈ l, GoodR x) → rAll l.length (l.flatMap resB ++ rest) bad = ⟨l, rest, bad⟩) ?_ ?_ l
  · intro rest _; rfl
  · intro l x ih rest h
    have h1 := ih (resB x ++ rest) (fun t ht => h t (by simp [ht]))
    rw [List.length_append, List.length_singleton]
    simp only [rAll]
    rw [List.flatMap_append, List.append_assoc]
    simp only [List.flatMap_cons, List.flatMap_nil, List.append_nil]
    rw [h1, rOne_resB x rest bad (h x (by simp))]
theorem rRep_putR (r : Rp) (rest : List UInt8) (bad : Bool) (h : GoodP r) : rRep (putR r ++ rest) bad = ⟨r, rest, bad⟩ := by
  obtain ⟨a, b, c, d, l⟩ := r
  have e0 : putR ⟨a, b, c, d, l⟩ ++ rest = be8 a ++ (be8 b ++ (be8 c ++ (be8 d ++ (be8 (l.length : Int) ++ (l.flatMap resB ++ rest))))) := by simp [putR, be8s]
  have hn := h.res
  simp only at hn
  rw [e0]
  simp only [rRep]
  rw [rI_be8 a _ _ h.num.1 h.num.2]
  simp only
  rw [rI_be8 b _ _ h.zxid.1 h.zxid.2]
  simp only
  rw [rI_be8 c _ _ h.err.1 h.err.2]
  simp only
  rw [rI_be8 d _ _ h.place.1 h.place.2]
  simp only
  rw [rC_be8 _ _ _ _ (by omega) (by omega) (by omega)]
  simp only [Int.toNat_natCast]
  rw [rAll_ress l _ _ h.each]
theorem getR_putR (r : Rp) (h : GoodP r) : getR (putR r) = (r, 0) := by
  have := rRep_putR r [] false h
  rw [List.append_nil] at this
  rw [getR, this]; rfl
theorem getR_more (r : Rp) (h : GoodP r) (x : UInt8) (l : List UInt8) : getR (putR r ++ x :: l) = (⟨0, 0, 0, 0, []⟩, 3) := by
  rw [getR, rRep_putR r _ false h]; rfl

/-- a reading that does not fail would read the same, were there more behind -/
def Ext {α : Type} (f : List UInt8 → Bool → Rd α) : Prop := ∀ l bad s, (f l bad).bad = false → bad = false ∧ f (l ++ s) bad = ⟨(f l bad).v, (f l bad).l ++ s, false⟩
theorem val8_more (l s : List UInt8) (h : 8 ≤ l.length) : val8 (l ++ s) = val8 l := by
  unfold val8
  rw [List.take_append_of_le_length h]
theorem ext_I : Ext rI := by
  intro l bad s h
  unfold rI at h ⊢
  by_cases hl : l.length < 8
  · rw [if_pos hl] at h; cases h
  · rw [if_neg hl] at h
    simp only at h
    refine ⟨h, ?_⟩
    rw [if_neg (by rw [List.length_append]; omega), if_neg hl, val8_more l s (by omega), List.drop_append_of_le_length (by omega), h]
theorem ext_C (most : Int) : Ext (fun l bad => rC l bad most) := by
  intro l bad s h
  simp only at h ⊢
  unfold rC at h ⊢
  by_cases hv : (rI l bad).v < 0 ∨ most < (rI l bad).v
  · rw [if_pos hv] at h; cases h
  · rw [if_neg hv] at h
    obtain ⟨h1, h2⟩ := ext_I l bad s h
    refine ⟨h1, ?_⟩
    rw [h2, if_neg hv, if_neg hv]
theorem ext_T (most : Int) : Ext (fun l bad => rT l bad most) := by
  intro l bad s h
  simp only at h ⊢
  unfold rT at h ⊢
  by_cases hv : ((rC l bad most).l.length : Int) < (rC l bad most).v
  · rw [if_pos hv] at h; cases h
  · rw [if_neg hv] at h
    obtain ⟨h1, h2⟩ := ext_C most l bad s h
    have hp := rC_pos l bad most
    refine ⟨h1, ?_⟩
    simp only at h2
    rw [h2, if_neg (by simp only [List.length_append]; omega), if_neg hv]
    simp only
    rw [List.take_append_of_le_length (by omega), List.drop_append_of_le_length (by omega)]
theorem Ext.pure {α : Type} (v : α) : Ext (fun l bad => ⟨v, l, bad⟩) := by
  intro l bad s h
  simp only at h
  exact ⟨h, by simp only [h]⟩
theorem Ext.bind {α β : Type} {f : List UInt8 → Bool → Rd α} {g : α → List UInt8 → Bool → Rd β} (hf : Ext f) (hg : ∀ a, Ext (g a)) : Ext (fun l bad => g (f l bad).v (f l bad).l (f l bad).bad) := by
  intro l bad s h
  simp only at h ⊢
  obtain ⟨g1, k1⟩ := hg _ _ _ s h
  obtain ⟨f1, k2⟩ := hf l bad s g1
  refine ⟨f1, ?_⟩
  rw [g1] at k1
  rw [k2]
  simp only
  rw [k1, g1]
theorem ext_Ts (n : Nat) : Ext (rTs n) := by
  induction n with
  | zero => exact Ext.pure []
  | succ n ih => exact Ext.bind ih (fun v => Ext.bind (ext_T 20000) (fun t => Ext.pure (v ++ [t])))
theorem ext_7gen {f1 f2 f3 f4 f5 f6 f7 : List UInt8 → Bool → Rd Int} (h1 : Ext f1) (h2 : Ext f2) (h3 : Ext f3) (h4 : Ext f4) (h5 : Ext f5) (h6 : Ext f6) (h7 : Ext f7) :
    Ext (fun l bad => let a := f1 l bad; let b := f2 a.l a.bad; let c := f3 b.l b.bad; let d := f4 c.l c.bad; let e := f5 d.l d.bad; let f := f6 e.l e.bad; let g := f7 f.l f.bad
      (⟨⟨a.v, b.v, c.v, d.v, e.v, f.v, g.v⟩, g.l, g.bad⟩ : Rd Nums7)) :=
  Ext.bind h1 fun a => Ext.bind h2 fun b => Ext.bind h3 fun c => Ext.bind h4 fun d => Ext.bind h5 fun e => Ext.bind h6 fun f => Ext.bind h7 fun g => Ext.pure (⟨a, b, c, d, e, f, g⟩ : Nums7)
theorem ext_7 : Ext r7 := ext_7gen ext_I ext_I ext_I ext_I ext_I ext_I ext_I
theorem ext_Onegen {f1 f4 : List UInt8 → Bool → Rd Int} {f2 f3 : List UInt8 → Bool → Rd ByteArray} {f5 : Nat → List UInt8 → Bool → Rd (List ByteArray)} {f6 : List UInt8 → Bool → Rd Nums7} (h1 : Ext f1) (h2 : Ext f2) (h3 : Ext f3) (h4 : Ext f4) (h5 : ∀ n, Ext (f5 n)) (h6 : Ext f6) :
    Ext (fun l bad => let e := f1 l bad; let p := f2 e.l e.bad; let d := f3 p.l p.bad; let k := f4 d.l d.bad; let ns := f5 k.v.toNat k.l k.bad; let z := f6 ns.l ns.bad
      (⟨⟨e.v, p.v, d.v, ns.v, z.v.a, z.v.b, z.v.c, z.v.d, z.v.e, z.v.f, z.v.g⟩, z.l, z.bad⟩ : Rd Re)) :=
  Ext.bind h1 fun e => Ext.bind h2 fun p => Ext.bind h3 fun d => Ext.bind h4 fun k => Ext.bind (h5 k.toNat) fun ns => Ext.bind h6 fun z => Ext.pure (⟨e, p, d, ns, z.a, z.b, z.c, z.d, z.e, z.f, z.g⟩ : Re)
theorem ext_One : Ext rOne := by
  unfold rOne
  exact ext_Onegen (f1 := rI) (f2 := fun l bad => rT l bad 20000) (f3 := fun l bad => rT l bad 20000) (f4 := fun l bad => rC l bad 500) (f5 := rTs) (f6 := r7) ext_I (ext_T 20000) (ext_T 20000) (ext_C 500) ext_Ts ext_7
theorem ext_Allgen {f : List UInt8 → Bool → Rd (List Re)} {g : List UInt8 → Bool → Rd Re} (hf : Ext f) (hg : Ext g) : Ext (fun l bad => (⟨(f l bad).v ++ [(g (f l bad).l (f l bad).bad).v], (g (f l bad).l (f l bad).bad).l, (g (f l bad).l (f l bad).bad).bad⟩ : Rd (List Re))) :=
  Ext.bind hf (fun v => Ext.bind hg (fun t => Ext.pure (v ++ [t])))
theorem rAll_succ (n : Nat) : rAll (n + 1) = fun l bad => (⟨(rAll n l bad).v ++ [(rOne (rAll n l bad).l (rAll n l bad).bad).v], (rOne (rAll n l bad).l (rAll n l bad).bad).l, (rOne (rAll n l bad).l (rAll n l bad).bad).bad⟩ : Rd (List Re)) := rfl
theorem ext_All (n : Nat) : Ext (rAll n) := by
  induction n with
  | zero => exact Ext.pure []
  | succ n ih => rw [rAll_succ]; exact ext_Allgen (f := rAll n) (g := rOne) ih ext_One
theorem ext_Repgen {f1 f2 f3 f4 f5 : List UInt8 → Bool → Rd Int} {f6 : Nat → List UInt8 → Bool → Rd (List Re)} (h1 : Ext f1) (h2 : Ext f2) (h3 : Ext f3) (h4 : Ext f4) (h5 : Ext f5) (h6 : ∀ n, Ext (f6 n)) :
    Ext (fun l bad => let a := f1 l bad; let b := f2 a.l a.bad; let c := f3 b.l b.bad; let d := f4 c.l c.bad; let k := f5 d.l d.bad; let x := f6 k.v.toNat k.l k.bad
      (⟨⟨a.v, b.v, c.v, d.v, x.v⟩, x.l, x.bad⟩ : Rd Rp)) :=
  Ext.bind h1 fun a => Ext.bind h2 fun b => Ext.bind h3 fun c => Ext.bind h4 fun d => Ext.bind h5 fun k => Ext.bind (h6 k.toNat) fun x => Ext.pure (⟨a, b, c, d, x⟩ : Rp)
theorem ext_Rep : Ext rRep := by
  unfold rRep
  exact ext_Repgen (f1 := rI) (f2 := rI) (f3 := rI) (f4 := rI) (f5 := fun l bad => rC l bad 16) (f6 := rAll) ext_I ext_I ext_I ext_I (ext_C 16) ext_All
/-- cut off anywhere it is none -/
theorem getR_cut (r : Rp) (h : GoodP r) (cut : Nat) (hc : cut < (putR r).length) : getR ((putR r).take cut) = (⟨0, 0, 0, 0, []⟩, 3) := by
  rw [getR]
  by_cases hg : (!(rRep ((putR r).take cut) false).bad && (rRep ((putR r).take cut) false).l.isEmpty) = true
  · exfalso
    simp only [Bool.and_eq_true, Bool.not_eq_true', List.isEmpty_iff] at hg
    obtain ⟨h1, h2⟩ := hg
    obtain ⟨_, h3⟩ := ext_Rep _ _ ((putR r).drop cut) h1
    rw [List.take_append_drop, h2] at h3
    have h4 := rRep_putR r [] false h
    rw [List.append_nil, h3] at h4
    have h5 : [] ++ (putR r).drop cut = [] := congrArg Rd.l h4
    rw [List.nil_append, List.drop_eq_nil_iff] at h5
    omega
  · rw [if_neg hg]
theorem putR_head (r : Rp) : ∃ t, putR r = be8 r.num ++ (be8 r.zxid ++ (be8 r.err ++ (be8 r.place ++ (be8 (r.res.length : Int) ++ t)))) := ⟨r.res.flatMap resB, by simp [putR, be8s]⟩
/-- unlike replies have unlike bytes -/
theorem putR_inj (r q : Rp) (h : GoodP r) (hq : In64 q.num ∧ In64 q.zxid ∧ In64 q.err ∧ In64 q.place) (hl : q.res.length ≤ 1000) (he : ∀ x ∈ q.res, GoodR x) (e : putR r = putR q) : r = q := by
  have hlen : r.res.length = q.res.length := by
    obtain ⟨t, h1⟩ := putR_head r
    obtain ⟨u, h2⟩ := putR_head q
    rw [h1, h2] at e
    have e1 := (List.append_inj e rfl).2
    have e2 := (List.append_inj e1 rfl).2
    have e3 := (List.append_inj e2 rfl).2
    have e4 := (List.append_inj e3 rfl).2
    have e5 := (List.append_inj e4 rfl).1
    have := be8_inj _ _ (by omega) (by have := h.res; omega) (by omega) (by omega) e5
    omega
  have hg : GoodP q := ⟨hq.1, hq.2.1, hq.2.2.1, hq.2.2.2, by rw [← hlen]; exact h.res, he⟩
  have h1 := getR_putR r h
  rw [e, getR_putR q hg] at h1
  exact (congrArg Prod.fst h1).symm
end Go.Proofs.Ytpikdeikcmdcmaa
