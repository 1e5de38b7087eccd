/-
  What calls make of a node; its bytes. No program here.
-/
import Derived.Test.YtaoligpckpabfaaGet
import Derived.Test.YtaoligpckpabfaaNames
namespace Go.Proofs.Ytaoligpckpabfaa
open Go.RowKit
/-- an act -/
structure Ac where
  op : Int
  n : Int
  s : ByteArray
instance : Inhabited Ac := ⟨⟨0, 0, ⟨#[]⟩⟩⟩
def doA (s : Nd) (x : Ac) : Nd := if x.op = 0 then writeZ s x.n x.s else if x.op = 1 then addZ s x.s else removeZ s x.s
structure Made (s : Nd) (k : Nat) : Prop where
  ris : Ris s.names
  len : s.names.length ≤ k
  each : ∀ y ∈ s.names, y.size ≤ 40
  version : 0 ≤ s.version ∧ s.version ≤ k
  kids : 0 ≤ s.kids ∧ s.kids ≤ k
  next : 0 ≤ s.next ∧ s.next ≤ k
  length : s.length = s.data.size
  count : s.count = s.names.length
  data : s.data.size ≤ 1000
  made : I64 s.made
  changed : I64 s.changed
  owner : I64 s.owner
theorem made_new {z o : Int} {d : ByteArray} (hz : I64 z) (ho : I64 o) (hd : d.size ≤ 1000) : Made (newZ z o d) 0 :=
  ⟨ris_nil, Nat.le_refl _, by simp [newZ], by simp [newZ], by simp [newZ], by simp [newZ], rfl, rfl, hd, hz, hz, ho⟩
theorem Made.wf {s : Nd} {k : Nat} (h : Made s k) (hk : k ≤ 1000) : WfN s := by
  have h1 := h.version; have h2 := h.kids; have h3 := h.next
  exact ⟨by unfold I64; omega, by unfold I64; omega, by unfold I64; omega⟩
theorem made_do {s : Nd} {k : Nat} (h : Made s k) (hk : k ≤ 1000) (x : Ac) (hx : x.s.size ≤ 40) (hn : I64 x.n) : Made (doA s x) (k + 1) := by
  have h1 := h.version; have h2 := h.kids; have h3 := h.next; have hl := h.len
  have m1 : moreZ s.version = s.version + 1 := moreZ_small (by omega)
  have m2 : moreZ s.kids = s.kids + 1 := moreZ_small (by omega)
  have m3 : moreZ s.next = s.next + 1 := moreZ_small (by omega)
  unfold doA
  split
  · refine ⟨h.ris, by show s.names.length ≤ k + 1; omega, h.each, ?_, by show 0 ≤ s.kids ∧ s.kids ≤ ((k + 1 : Nat) : Int); omega, by show 0 ≤ s.next ∧ s.next ≤ ((k + 1 : Nat) : Int); omega, rfl, h.count, by show x.s.size ≤ 1000; omega, h.made, hn, h.owner⟩
    show 0 ≤ moreZ s.version ∧ moreZ s.version ≤ ((k + 1 : Nat) : Int)
    omega
  · split
    · have hr := addZ_ris h.ris x.s
      unfold addZ at hr ⊢
      by_cases hh : hereS s.names x.s = true
      · rw [if_pos hh]
        exact ⟨h.ris, by omega, h.each, by omega, by omega, by omega, h.length, h.count, h.data, h.made, h.changed, h.owner⟩
      · rw [if_neg hh] at hr ⊢
        have hil := insS_len s.names (seekS s.names x.s) x.s (seekS_le _ _)
        refine ⟨hr, by show (insS _ _ _).length ≤ _; omega, ?_, ?_, ?_, ?_, h.length, ?_, h.data, h.made, h.changed, h.owner⟩
        · intro y hy
          rcases (insS_mem _ _ _ _).1 hy with rfl | hy
          · exact hx
          · exact h.each y hy
        · show 0 ≤ s.version ∧ s.version ≤ ((k + 1 : Nat) : Int); omega
        · show 0 ≤ moreZ s.kids ∧ moreZ s.kids ≤ ((k + 1 : Nat) : Int); omega
        · show 0 ≤ moreZ s.next ∧ moreZ s.next ≤ ((k + 1 : Nat) : Int); omega
        · show ((s.names.length + 1 : Nat) : Int) = ((insS _ _ _).length : Nat); rw [hil]
    · have hr := removeZ_ris h.ris x.s
      unfold removeZ at hr ⊢
      by_cases hh : hereS s.names x.s = true
      · rw [if_pos hh] at hr ⊢
        have hlt := hereS_lt hh
        have hol : (outS s.names (seekS s.names x.s)).length = s.names.length - 1 := by simp only [outS, List.length_append, List.length_take, List.length_drop]; omega
        refine ⟨hr, by show (outS _ _).length ≤ _; omega, ?_, ?_, ?_, ?_, h.length, ?_, h.data, h.made, h.changed, h.owner⟩
        · intro y hy
          exact h.each y (outS_mem h.ris hh hy).1
        · show 0 ≤ s.version ∧ s.version ≤ ((k + 1 : Nat) : Int); omega
        · show 0 ≤ moreZ s.kids ∧ moreZ s.kids ≤ ((k + 1 : Nat) : Int); omega
        · show 0 ≤ s.next ∧ s.next ≤ ((k + 1 : Nat) : Int); omega
        · show ((s.names.length - 1 : Nat) : Int) = ((outS _ _).length : Nat); rw [hol]
      · rw [if_neg hh]
        exact ⟨h.ris, by omega, h.each, by omega, by omega, by omega, h.length, h.count, h.data, h.made, h.changed, h.owner⟩
theorem Made.fit {s : Nd} {k : Nat} (h : Made s k) (hk : k ≤ 1000) : FitN s :=
  ⟨by have := h.data; omega, by have := h.len; omega, fun y hy => by have := h.each y hy; omega⟩
theorem rTs_txts (l : List ByteArray) (rest : List UInt8) (bad : Bool) (h : ∀ y ∈ l, y.size ≤ 40) : rTs l.length (l.flatMap txt ++ rest) bad = ⟨l, rest, bad⟩ := by
  have key : ∀ k, k ≤ l.length → rTs k (l.flatMap txt ++ rest) bad = ⟨l.take k, (l.drop k).flatMap txt ++ rest, bad⟩ := by
    intro k
    induction k with
    | zero => intro _; simp [rTs]
    | succ k ih =>
      intro hk
      rw [rTs, ih (by omega)]
      have hd : l.drop k = l[k] :: l.drop (k + 1) := List.drop_eq_getElem_cons (by omega)
      simp only
      rw [hd, List.flatMap_cons, List.append_assoc, rT_txt _ _ _ _ (by have := h l[k] (List.getElem_mem _); omega) (by omega)]
      rw [List.take_succ_eq_append_getElem (by omega)]
  have := key l.length (Nat.le_refl _)
  rw [this, List.take_length, List.drop_length]
  rfl
/-- what is written is read -/
theorem get_put {s : Nd} {k : Nat} (h : Made s k) (hk : k ≤ 500) (rest : List UInt8) (bad : Bool) : getG (putN s ++ rest) bad = ⟨s, rest, bad⟩ := by
  have h1 := h.version; have h2 := h.kids; have h3 := h.next; have hl := h.len
  have b1 := h.made; have b2 := h.changed; have b3 := h.owner
  unfold I64 at b1 b2 b3
  have e : putN s ++ rest = be8 s.made ++ (be8 s.changed ++ (be8 s.version ++ (be8 s.kids ++ (be8 s.owner ++ (be8 s.next ++ (txt s.data ++ (be8 (s.names.length : Int) ++ (s.names.flatMap txt ++ rest)))))))) := by
    simp [putN, be8s, List.append_assoc]
  rw [e]
  unfold getG
  rw [rI_be8 _ _ _ b1.1 b1.2]
  simp only
  rw [rI_be8 _ _ _ b2.1 b2.2]
  simp only
  rw [rC_be8 _ _ _ _ h1.1 (by omega) (by omega)]
  simp only
  rw [rC_be8 _ _ _ _ h2.1 (by omega) (by omega)]
  simp only
  rw [rI_be8 _ _ _ b3.1 b3.2]
  simp only
  rw [rC_be8 _ _ _ _ h3.1 (by omega) (by omega)]
  simp only
  rw [rT_txt _ _ _ _ (by have := h.data; omega) (by omega)]
  simp only
  rw [rC_be8 _ _ _ _ (by omega) (by omega) (by omega)]
  simp only [Int.toNat_natCast]
  rw [rTs_txts _ _ _ h.each]
  simp only
  rw [← h.length, ← h.count]
theorem put_inj {s t : Nd} {k j : Nat} (h : Made s k) (g : Made t j) (hk : k ≤ 500) (hj : j ≤ 500) (he : putN s = putN t) : s = t := by
  have h1 := get_put h hk [] false
  have h2 := get_put g hj [] false
  rw [he, h2] at h1
  exact congrArg Rd.v h1.symm
end Go.Proofs.Ytaoligpckpabfaa
