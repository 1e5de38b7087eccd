/-
  What the proof of the law leans on: contracts of the program's functions, one behind another. No condition.
-/
import Derived.Test.YtnicaicjgaoolaaS20
import Derived.Test.YtnicaicjgaoolaaS17
import Derived.Test.YtnicaicjgaoolaaS3
set_option linter.unusedVariables false
set_option linter.unusedSimpArgs false
namespace Go.Proofs.Ytnicaicjgaoolaa
open Go.RowKit Go.ChangeMaps Go.WideMaps Go.Maps
set_option maxRecDepth 20000
/-- a row of messages in block g, of its own -/
structure RowQ (w : World) (A : List Nat) (g : Nat) (v : Value) (ms : List Msg) : Prop where
 q : IsQ w A [g] v ms
 typ : ∃ cur, w.heap[g]? = some (.cells cur 51 (0, 0))
/-- the row grows in place, or stands in a new block -/
structure GrowQ (w w' : World) (A : List Nat) (g : Nat) (v : Value) (ms : List Msg) : Prop where
 ex : ∃ g', RowQ w' (A ++ [g']) g' v ms ∧ Only [g] w w' ∧ (g' = g ∨ w.heap.size ≤ g')
theorem IsQ.inY {w : World} {A Y : List Nat} {p : Addr} {n c : Nat} {ms : List Msg} (h : IsQ w A Y (.slice (some p) n c) ms) : p.block ∈ Y ∧ ∃ cur, w.heap[p.block]? = some (.cells cur 51 (0, 0)) := by
 rcases h with ⟨h, _⟩ | ⟨g, off, c', cur, h1, h2, h3, h4, h5, h6, h7⟩
 ·cases h
 ·simp only [Value.slice.injEq] at h1
  obtain ⟨e1, _, _⟩ := h1
  cases e1
  exact ⟨h4, cur, h5⟩
section
variable {w w' : World} {A A' Y Y' : List Nat} {v : Value} {ms : List Msg}
theorem freshQ {n cap : Nat} {cells : List Value} {ms' : List Msg} (hA : ∀ b ∈ A, b < w.heap.size) (rest : Array Value) (hn : n = ms'.length) (hcap : n ≤ cap) (hc9 : cap ≤ 9223372036854775807) (hsz : cap * 5 ≤ cells.length + rest.size)
  (hq : ∀ i, (h : i < ms'.length) → ∃ v u, cells[i * 5]? = some (.int .i64 ms'[i].frm) ∧ cells[i * 5 + 1]? = some (.int .i64 ms'[i].dst) ∧ cells[i * 5 + 2]? = some (.int .i64 ms'[i].kind) ∧ cells[i * 5 + 3]? = some v ∧ cells[i * 5 + 4]? = some u ∧ IsMsg w A ms'[i] v u) :
  RowQ (w.drew.alloc (.cells (cells.toArray ++ rest) 51)) (A ++ [w.heap.size]) w.heap.size (.slice (some ⟨w.heap.size, 0, none⟩) n cap) ms' := by
 have hb : Below w.heap.size w (w.drew.alloc (.cells (cells.toArray ++ rest) 51)) := (below_drewN w 1).alloc (Nat.le_refl _) _
 have hnew : (w.drew.alloc (.cells (cells.toArray ++ rest) 51)).heap[w.heap.size]? = some (.cells (cells.toArray ++ rest) 51 (0, 0)) := heap_new w.drew _
 have hext : Ext A (A ++ [w.heap.size]) w := fun b hb => by
  rcases List.mem_append.1 hb with h | h
  ·exact .inl h
  ·exact .inr (by rw [List.mem_singleton.1 h]; exact Nat.le_refl _)
 refine ⟨.inr ⟨w.heap.size, 0, cap, _, by rw [Nat.zero_mul, hn], by omega, hc9, by simp, hnew, by simp; omega, fun i hi => ?_⟩, _, hnew⟩
 ·obtain ⟨v, u, h1, h2, h3, h4, h5, h6⟩ := hq i hi
  have hg : ∀ {j : Nat} {x : Value}, cells[j]? = some x → (cells.toArray ++ rest)[j]? = some x := fun {j x} hj => by
   have hlt := (List.getElem?_eq_some_iff.1 hj).1
   rw [Array.getElem?_append_left (by simpa using hlt)]
   simpa using hj
  rw [Nat.zero_add]
  exact ⟨v, u, hg h1, hg h2, hg h3, hg h4, hg h5, h6.step (Only.ofBelow hb []) (fun b hb => by cases hb) hext⟩
theorem grow_q {Y2 : List Nat} {ms2 : List Msg} {p2 : Addr} {n2 c2 : Nat} {p1 : Addr} {n1 c1 : Nat} (h : IsQ w A Y (.slice (some p1) n1 c1) ms) (hs : IsQ w A Y2 (.slice (some p2) n2 c2) ms2) (hYA : ∀ b ∈ Y, b ∈ A) (hA : ∀ b ∈ A, b < w.heap.size) (hb : ms.length + ms2.length ≤ 1000000) (ty : TypeId) :
  ∃ p n c w', (Builtin.append_ #[35, 35] ty #[.slice (some p1) n1 c1, .slice (some p2) n2 c2]).run Try.prog w = .ok (.slice (some p) n c) w' ∧ GrowQ w w' A p1.block (.slice (some p) n c) (ms ++ ms2) := by
 obtain ⟨i0, hi0, hz0, hz1, hz2⟩ := info_parts info51
 obtain ⟨news, hl, e2, hnews, hones, hat⟩ := hs.cells
 obtain ⟨old, hlo, e1, hold, _, hato⟩ := h.cells
 subst e1 e2
 rcases h with ⟨h, _⟩ | ⟨g, off, c', cur, h1, h2, h3, h4, h5, h6, h7⟩
 ·cases h
 simp only [Value.slice.injEq] at h1
 obtain ⟨e1, _, rfl⟩ := h1
 cases e1
 by_cases hroom : ms.length + ms2.length ≤ c1
 ·have hr := run_append_room_off (P := Try.prog) w 35 ty 51 i0 Try.underlying35 hi0 g (off * 5) ms.length c1 cur h5 p2 ms2.length c2 news (by rw [hz1]; exact hl) hnews hones hroom (by rw [hz1, hl]; omega)
  rw [hz1] at hr
  refine ⟨_, _, _, _, hr, g, ⟨.inr ⟨g, off, c1, _, by simp, by simpa using hroom, h3, by simp, setRow_heap _ _ _ _ _ _ h5, by simp; omega, fun i hi => ?_⟩, _, setRow_heap _ _ _ _ _ _ h5⟩, setRow_only _ _ _, .inl rfl⟩
  have hst : Only [g] w (w.setRow g (cur.toList.take (off * 5 + ms.length * 5) ++ news ++ cur.toList.drop (off * 5 + ms.length * 5 + news.length)).toArray) := setRow_only _ _ _
  have hgA : ∀ b ∈ [g], b ∈ A := fun b hb => by rw [List.mem_singleton.1 hb]; exact hYA g h4
  have hx9 : Ext A (A ++ [g]) w := fun b hb => by
   rcases List.mem_append.1 hb with h | h
   ·exact .inl h
   ·exact .inl (hgA b h)
  have hl9 : (cur.toList.take (off * 5 + ms.length * 5)).length = off * 5 + ms.length * 5 := by simp only [List.length_take, Array.length_toList]; omega
  by_cases hlt : i < ms.length
  ·have e : (ms ++ ms2)[i] = ms[i] := by simp [List.getElem_append_left, hlt]
   rw [e]
   obtain ⟨v, u, k1, k2, k3, k4, k5, k6⟩ := h7 i hlt
   have hg : ∀ {j : Nat} {x : Value}, j < off * 5 + ms.length * 5 → cur[j]? = some x → (cur.toList.take (off * 5 + ms.length * 5) ++ news ++ cur.toList.drop (off * 5 + ms.length * 5 + news.length)).toArray[j]? = some x := fun {j x} hj hx => by
    rw [List.getElem?_toArray, List.append_assoc, List.getElem?_append_left (by rw [hl9]; exact hj), List.getElem?_take, if_pos hj, Array.getElem?_toList]
    exact hx
   exact ⟨v, u, hg (by omega) k1, hg (by omega) k2, hg (by omega) k3, hg (by omega) k4, hg (by omega) k5, k6.step hst hgA hx9⟩
  ·rw [List.length_append] at hi
   obtain ⟨k, rfl⟩ : ∃ k, i = ms.length + k := ⟨i - ms.length, by omega⟩
   have e : (ms ++ ms2)[ms.length + k] = ms2[k] := by simp
   rw [e]
   obtain ⟨v, u, k1, k2, k3, k4, k5, k6⟩ := hat k (by omega)
   have hg : ∀ {j : Nat} {x : Value}, news[k * 5 + j]? = some x → (cur.toList.take (off * 5 + ms.length * 5) ++ news ++ cur.toList.drop (off * 5 + ms.length * 5 + news.length)).toArray[(off + (ms.length + k)) * 5 + j]? = some x := fun {j x} hx => by
    have hlt := (List.getElem?_eq_some_iff.1 hx).1
    rw [List.getElem?_toArray, List.append_assoc, List.getElem?_append_right (by rw [hl9]; omega), hl9, show (off + (ms.length + k)) * 5 + j - (off * 5 + ms.length * 5) = k * 5 + j by omega, List.getElem?_append_left hlt]
    exact hx
   exact ⟨v, u, hg (j := 0) k1, hg k2, hg k3, hg k4, hg k5, k6.step hst hgA hx9⟩
 ·have hr := run_append_grow (P := Try.prog) (w := w) 35 ty 51 i0 (.agg #[.int .i64 0, .int .i64 0, .int .i64 0, .slice none 0 0, .slice none 0 0]) Try.underlying35 hi0 hz0 ⟨g, off * 5, none⟩ ms.length c1 old (by rw [hz1]; exact hlo) hold p2 ms2.length c2 news (by rw [hz1]; exact hl) hnews (by omega) (by omega) (growslice_fits (by omega) (by rw [hz2]; omega))
  have eT : old.toArray ++ news.toArray = (old ++ news).toArray := by
   apply Array.ext'; simp
  rw [eT] at hr
  refine ⟨_, _, _, _, hr, w.heap.size, freshQ (ms' := ms ++ ms2) hA _ (by rw [List.length_append]) (grownCap_ge w (ms.length + ms2.length) c1 51) (Nat.le_trans (grownCap_le_maxLen w (ms.length + ms2.length) c1 51 (by unfold maxLen; omega)) (by unfold maxLen; omega)) ?_ (fun i hi => ?_), Only.ofBelow ((below_drewN w 1).alloc (Nat.le_refl _) _) _, .inr (Nat.le_refl _)⟩
  ·rw [size_zeroCells, List.length_append, hlo, hl]
   have := grownCap_ge w (ms.length + ms2.length) c1 51
   simp [Value.cells]; omega
  ·by_cases hlt : i < ms.length
   ·have e : (ms ++ ms2)[i] = ms[i] := by simp [List.getElem_append_left, hlt]
    rw [e]
    obtain ⟨v, u, k1, k2, k3, k4, k5, k6⟩ := hato i hlt
    have hg : ∀ {j : Nat} {x : Value}, old[j]? = some x → (old ++ news)[j]? = some x := fun {j x} hx => by
     rw [List.getElem?_append_left (List.getElem?_eq_some_iff.1 hx).1]
     exact hx
    exact ⟨v, u, hg k1, hg k2, hg k3, hg k4, hg k5, k6⟩
   ·rw [List.length_append] at hi
    obtain ⟨k, rfl⟩ : ∃ k, i = ms.length + k := ⟨i - ms.length, by omega⟩
    have e : (ms ++ ms2)[ms.length + k] = ms2[k] := by simp
    rw [e]
    obtain ⟨v, u, k1, k2, k3, k4, k5, k6⟩ := hat k (by omega)
    have hg : ∀ {j : Nat} {x : Value}, news[k * 5 + j]? = some x → (old ++ news)[(ms.length + k) * 5 + j]? = some x := fun {j x} hx => by
     rw [List.getElem?_append_right (by rw [hlo]; omega), hlo, show (ms.length + k) * 5 + j - ms.length * 5 = k * 5 + j by omega]
     exact hx
    exact ⟨v, u, hg (j := 0) k1, hg k2, hg k3, hg k4, hg k5, k6⟩
end
end Go.Proofs.Ytnicaicjgaoolaa
namespace Go.Proofs.Ytnicaicjgaoolaa
open Go.RowKit Go.ChangeMaps Go.WideMaps Go.Maps
set_option maxRecDepth 20000
section
variable (p : String)
def z0hx0 : Oper := ⟨some 34, .move (.tmp 0), 39, p, #[], none⟩
def z0hx1 : Oper := ⟨some 35, .move (.tmp 0), 39, p, #[], none⟩
def z0hx2 : Oper := ⟨some 36, .nilCheck (.tmp 35), 0, p, #[⟨1, .data⟩], none⟩
def z0hx3 : Oper := ⟨some 37, .fieldAddr 66 (.tmp 36) 6, 0, p, #[⟨2, .data⟩], none⟩
def z0hx4 : Oper := ⟨some 39, .move (.tmp 1), 29, p, #[], none⟩
def z0hx5 : Oper := ⟨some 38, .load 2 (.tmp 37), 2, p, #[⟨3, .data⟩], none⟩
def z0hx6 : Oper := ⟨some 40, .call { callee := Callee.value (Operand.func 26), args := #[.tmp 39], argTypes := #[29] }, 29, p, #[⟨5, .data⟩], none⟩
def z0hx7 : Oper := ⟨some 41, .build 68 #[(0, .tmp 38), (1, .tmp 40)], 68, p, #[⟨4, .data⟩, ⟨6, .data⟩], none⟩
def z0hx8 : Oper := ⟨some 42, .call { callee := Callee.value (Operand.func 28), args := #[.tmp 34, .tmp 41], argTypes := #[39, 68] }, 4, p, #[⟨0, .data⟩, ⟨7, .data⟩, ⟨6, .chain⟩], none⟩
def z0hx9 : Oper := ⟨some 43, .unOp UnOp.not 4 (.tmp 42), 4, p, #[⟨8, .data⟩], none⟩
end
attribute [go_sem, reducible] z0hx0 z0hx1 z0hx2 z0hx3 z0hx4 z0hx5 z0hx6 z0hx7 z0hx8 z0hx9
theorem z0hxm0 {p : Prop} (h : p := by
 refine hK.out _ _ trivial (fun hHeld => ?_)
 clear hK K
 refine qsp ?_
 refine qtl 7 (z0hx7 _) rfl ?_
 refine qr1 8 (z0hx8 _) rfl fun K hK => ?_
 unfold z0hx8
 go_simp
 refine (HP.out _ HB4.out _ HI4.out).mono ?_
 rintro e w5 ⟨rfl, hn5⟩
 have HN5 := Lib.hid hn5
 clear hn5
 go_wp2_with fail
 refine hK.out _ _ trivial (fun hHeld => ?_)
 clear hK K
 refine qsp ?_
 refine qtl 9 (z0hx9 _) rfl ?_
 refine qdn ?_
 go_wp2_with fail
 go_meet
 exact ⟨by rfl, HN5.out⟩) : p := h
/-- messages, an error, and the node -/
structure SbP (w w' : World) (A X : List Nat) (r d l : Nat) (e : Ending) (p : List Msg × Int × Rp × Dk) : Prop where
 ex : ∃ v A' X', e = .returned (.tuple #[v, .int .i64 p.2.1]) ∧ Nd w' A' X' r d l p.2.2.1 p.2.2.2 ∧ OwnMs w' A' w.heap.size v p.1 ∧ Mv A A' X X' w w' ∧ ∀ b, v.ownBlock = some b → b ∉ A'
section
variable {w w' : World} {A A' X X' : List Nat} {r d l : Nat} {s s' : Rp} {k k' : Dk}
theorem SbP.none {z : Int} (h : NdP w w' A X r d l s' k') : SbP w w' A X r d l (.returned (.tuple #[.slice none 0 0, .int .i64 z])) ([], z, s', k') := by
 obtain ⟨A', X', h, m⟩ := h
 exact ⟨_, A', X', rfl, h, OwnMs.nil _ _ _, m, (fun b hb => by cases hb)⟩
set_option maxHeartbeats 4000000 in
theorem submit_any (h : Nd w A X r d l s k) (hw : Wf s k) (ao : Option Addr) (n c : Nat) (rec : List UInt8) (hi : Imm w A (.slice ao n c) rec) (hn : n = rec.length) (hnb : n ≤ 1000000) : Calls Try.prog 16 #[.pointer (some ⟨r, 0, none⟩), .slice ao n c] w fun e w' => SbP w w' A X r d l e (submitM s k rec) := by
 have HD := Lib.hid (done_any h)
 have HXR := Lib.hid h.rX
 have HRL : Hid (rec.length = n) := Lib.hid hn.symm
 have HXA := Lib.hid (h.xA r h.rX)
 have HW := Lib.hid (wf_doneS hw)
 have HIM := Lib.hid hi
 have H := Lib.hid h
 by_cases h0 : n = 0
 ·have HE : Hid (submitM s k rec = ([], 1, s, k)) := Lib.hid (by unfold submitM; rw [if_pos (by omega)])
  clear h hw hi
  go_enter Try.func16, Try.ntmps16
  go_wp2_with fail
  go_ret2
  rw [HE.out]
  exact SbP.none (H.out.ndp (Mv.refl _ _ _))
 ·by_cases h8 : 8000 < n
  ·have HE : Hid (submitM s k rec = ([], 2, s, k)) := Lib.hid (by unfold submitM; rw [if_neg (by omega), if_pos (by omega)])
   have g8 : (8000 : Int) < (n : Int) := by omega
   have g0 : ((n : Int) == 0) = false := by simp; omega
   clear h hw hi
   go_enter Try.func16, Try.ntmps16
   go_wp2_with fail
   go_ret2
   rw [HE.out]
   exact SbP.none (H.out.ndp (Mv.refl _ _ _))
  ·have HE : Hid (submitM s k rec = (let s1 := doneS s k
    if s1.done then ([], 10, s1, k) else if !s1.leads then ([], 15, s1, k) else if 200 ≤ openM s1 ∨ 2000 ≤ s1.many then ([], 9, s1, k) else
    let p := putM s1 k ⟨s1.term, rec⟩
    if p.1 then (let s2 := (settleM p.2.1).2; (othersM s2 (layingM s2), 0, s2, p.2.2)) else ([], 10, p.2))) := Lib.hid (by unfold submitM; rw [if_neg (by omega), if_neg (by omega)])
   have g8 : ¬ (8000 : Int) < (n : Int) := by omega
   have g0 : ((n : Int) == 0) = false := by simp; omega
   (try simp only at HE)
   have hdd : (doneS s k).done = doneM s k := rfl
   clear h hw hi hn
   generalize doneS s k = s1 at *
   go_enter Try.func16, Try.ntmps16
   go_wp2_with fail
   refine HD.out.mono ?_
   rintro e w2 ⟨rfl, hn2, ho2⟩
   have H2 := Lib.hid hn2
   have M2 := Lib.hid (Mv.only (A := A) ho2 (by simpa using HXR.out))
   have HI2 := Lib.hid (HIM.out.step ho2 (by simpa using HXA.out) (Ext.refl _ _))
   obtain ⟨vl, gv, gn, gm, gh, hcell⟩ := hn2.cells
   have hc11 : w2.cell? ⟨r, 11, none⟩ = some (.bool s1.leads) := by rw [cell_heap hcell]; rfl
   have hc10 : w2.cell? ⟨r, 10, none⟩ = some (.int .i64 (s1.many : Int)) := by rw [cell_heap hcell]; rfl
   have hc6 : w2.cell? ⟨r, 6, none⟩ = some (.int .i64 s1.term) := by rw [cell_heap hcell]; rfl
   clear hn2 ho2 hcell
   cases hdn : doneM s k with
   | true =>
    rw [if_pos (by rw [hdd, hdn])] at HE
    go_wp2_with fail
    go_ret2
    rw [HE.out]
    exact SbP.none (H2.out.ndp M2.out)
   | false =>
    rw [if_neg (by rw [hdd, hdn]; decide)] at HE
    cases hld : s1.leads with
    | false =>
     rw [hld] at hc11 HE
     rw [if_pos (by decide)] at HE
     go_wp2_with fail
     go_ret2
     rw [HE.out]
     exact SbP.none (H2.out.ndp M2.out)
    | true =>
     rw [hld] at hc11 HE
     rw [if_neg (by decide)] at HE
     have HOP := Lib.hid (open_any H2.out HW.out.agr (by have := HW.out.logb; omega))
     generalize openM s1 = om at *
     by_cases hfull : 200 ≤ om ∨ 2000 ≤ s1.many
     ·rw [if_pos hfull] at HE
      by_cases ho : 200 ≤ om
      ·have g2 : (200 : Int) ≤ (om : Int) := by omega
       clear hfull
       go_wp2_with fail
       refine HOP.out.mono ?_
       rintro e w3 ⟨rfl, hb3⟩
       have HB3 := Lib.hid hb3
       clear hb3
       go_wp2_with fail
       go_ret2
       rw [HE.out]
       exact SbP.none ((H2.out.below HB3.out).ndp (M2.out.trans (Mv.below HB3.out)))
      ·have g2 : ¬ (200 : Int) ≤ (om : Int) := by omega
       have g3 : (2000 : Int) ≤ (s1.many : Int) := by omega
       clear hfull
       go_wp2_with fail
       refine HOP.out.mono ?_
       rintro e w3 ⟨rfl, hb3⟩
       have HB3 := Lib.hid hb3
       have hk10 := cell_later hb3 hc10
       clear hb3
       go_wp2_with fail
       go_ret2
       rw [HE.out]
       exact SbP.none ((H2.out.below HB3.out).ndp (M2.out.trans (Mv.below HB3.out)))
     ·rw [if_neg hfull] at HE
      have g2 : ¬ (200 : Int) ≤ (om : Int) := by omega
      have g3 : ¬ (2000 : Int) ≤ (s1.many : Int) := by omega
      clear hfull
      have HNB := Lib.hid hnb
      go_wp2_with fail
      refine HOP.out.mono ?_
      rintro e W3 ⟨rfl, hb3⟩
      have h3 : Nd W3.drew A X r d l s1 k := (H2.out.below hb3).below (below_drewN W3 1)
      have M3 : Hid (Mv A A X X w W3.drew) := Lib.hid (M2.out.trans ((Mv.below hb3).trans (Mv.below (below_drewN W3 1))))
      have hi3 : Imm W3.drew A (.slice ao n c) rec := (HI2.out.below hb3).below (below_drewN W3 1)
      have hk10 := cell_later hb3 hc10
      have hk6 := cell_later hb3 hc6
      have hkv6 : W3.drew.cell? ⟨r, 6, none⟩ = some (.int .i64 s1.term) := hk6
      have HIB : Hid (IsB W3.drew ao n c rec) := Lib.hid (by
       obtain ⟨ao', c', e, h1, _⟩ := hi3
       rw [HRL.out] at e h1
       cases e
       exact h1)
      have HAD := Lib.hid h3.alt
      have hrl8 : rec.length ≤ 8000 := by rw [HRL.out]; omega
      have HP : Hid (∀ W', Below W3.drew.heap.size W3.drew W' → ∀ u, Imm W' A u rec → Calls Try.prog 28 #[.pointer (some ⟨r, 0, none⟩), .agg #[.int .i64 s1.term, u]] W' fun e w' => e = .returned (.bool (putM s1 k ⟨s1.term, rec⟩).1) ∧ NdP w w' A X r d l (putM s1 k ⟨s1.term, rec⟩).2.1 (putM s1 k ⟨s1.term, rec⟩).2.2) := Lib.hid (fun W' hb u hu =>
       (put_any (h3.below hb) HW.out ⟨s1.term, rec⟩ hrl8 u hu).mono (by rintro e w' ⟨q1, q2⟩; exact ⟨q1, q2.trans (M3.out.trans (Mv.below hb))⟩))
      have HWP := Lib.hid (wf_put HW.out ⟨s1.term, rec⟩ hrl8)
      have HSP := Lib.hid (same_put (s := s1) (k := k) ⟨s1.term, rec⟩)
      have hld2 : s1.leads = true := hld
      have HLD := Lib.hid hld2
      clear hb3 hi3 h3 hrl8 hc10 hc11 hc6
      (try simp only at HE)
      generalize putM s1 k ⟨s1.term, rec⟩ = p at *
      obtain ⟨ok, s2, k2⟩ := p
      (try simp only at HE); (try simp only at HP); (try simp only at HWP); (try simp only at HSP)
      go_upto_region 11 with (fail)
      go_cut [43] (fun v wx => v = .bool (!ok) ∧ NdP w wx A X r d l s2 k2)
      case first =>
       as_aux_lemma =>
       refine wp_region_held_drew (S := fun _ => True) (by kernel_rfl) trivial (fun hHeld => ?_)
       refine qtl 0 (z0hx0 _) rfl ?_
       refine qtl 1 (z0hx1 _) rfl ?_
       refine qtl 2 (z0hx2 _) rfl ?_
       refine qtl 3 (z0hx3 _) rfl ?_
       refine qtl 5 (z0hx4 _) rfl ?_
       generalize W3.drew = V3 at *
       refine qr2 4 6 (z0hx5 _) (z0hx6 _) rfl rfl (fun K hK => ?_) fun K hK => ?_
       ·unfold z0hx5
        go_simp
        refine hK.out _ _ trivial (fun hHeld => ?_)
        clear hK K
        refine qsp ?_
        refine qr1 6 (z0hx6 _) rfl fun K hK => ?_
        unfold z0hx6
        go_simp
        refine (F.clone_any ao n c rec _ HIB.out (by have := HNB.out; omega)).mono ?_
        rintro e w4 ⟨v4, rfl, ho4, hb4⟩
        have HI4 := Lib.hid (Imm.new ho4 HAD.out)
        have HB4 := Lib.hid hb4
        have hk4 := cell_later hb4 hkv6
        obtain ⟨a4, c4, e4, _⟩ := id HI4.out
        rw [HRL.out] at e4
        subst e4
        clear ho4 hb4
        go_wp2_with fail
        exact z0hxm0
       ·unfold z0hx6
        go_simp
        refine (F.clone_any ao n c rec _ HIB.out (by have := HNB.out; omega)).mono ?_
        rintro e w4 ⟨v4, rfl, ho4, hb4⟩
        have HI4 := Lib.hid (Imm.new ho4 HAD.out)
        have HB4 := Lib.hid hb4
        have hk4 := cell_later hb4 hkv6
        obtain ⟨a4, c4, e4, _⟩ := id HI4.out
        rw [HRL.out] at e4
        subst e4
        clear ho4 hb4
        go_wp2_with fail
        refine hK.out _ _ trivial (fun hHeld => ?_)
        clear hK K
        refine qsp ?_
        refine qr1 4 (z0hx5 _) rfl fun K hK => ?_
        unfold z0hx5
        go_simp
        exact z0hxm0
      case rest =>
      obtain ⟨rfl, hn5⟩ := hcut
      have HN5 := Lib.hid hn5
      clear hn5
      cases ok with
      | false =>
       rw [if_neg (by simp)] at HE
       go_wp2_with fail
       go_ret2
       rw [HE.out]
       exact SbP.none HN5.out
      | true =>
       rw [if_pos rfl] at HE
       obtain ⟨A2, X2, h5, m5⟩ := HN5.out
       have H5 := Lib.hid h5
       have M5 := Lib.hid m5
       clear h5 m5
       go_wp2_with fail
       refine (settle_any H5.out HWP.out).mono ?_
       rintro e w6 ⟨rfl, A3, X3, h6, m6⟩
       have H6 := Lib.hid h6
       have M6 := Lib.hid (M5.out.trans m6)
       have HW6 := Lib.hid (wf_settle HWP.out)
       have HL6 : Hid ((settleM s2).2.leads = true) := Lib.hid (by
         obtain ⟨w0, d0, l0, e0⟩ := HSP.out
         rw [settle_leads, e0]
         exact HLD.out)
       clear h6 m6
       generalize (settleM s2).1 = ob at *
       generalize (settleM s2).2 = s3 at *
       go_wp2_with fail
       refine (others_laying H6.out HW6.out.n5 HW6.out (fun i _ => (HW6.out.lead HL6.out i).1)).mono ?_
       rintro e w7 ⟨v7, rfl, ho7, hb7⟩
       have HF : Hid (SbP w w7 A X r d l (.returned (.tuple #[v7, .int .i64 0])) (othersM s3 (layingM s3), 0, s3, k2)) := Lib.hid ⟨v7, A3, X3, rfl, H6.out.below hb7, ho7.mono M6.out.mv.only.size, M6.out.trans (Mv.below hb7), fun b hb8 hm8 => by have := (ho7.lt b (by simp [hb8])).1; have := H6.out.alt b hm8; omega⟩
       clear ho7 hb7
       go_wp2_with fail
       go_ret2
       rw [HE.out]
       exact HF.out
end
end Go.Proofs.Ytnicaicjgaoolaa
