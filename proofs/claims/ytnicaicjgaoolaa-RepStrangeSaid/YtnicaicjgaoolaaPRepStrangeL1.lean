/-
  What the proof of the law leans on: contracts of the program's functions, one behind another. No condition.
-/
import Derived.Test.YtnicaicjgaoolaaS36
set_option linter.unusedVariables false
set_option linter.unusedSimpArgs false
namespace Go.Proofs.Ytnicaicjgaoolaa
open Go.RowKit Go.ChangeMaps Go.WideMaps Go.Maps
set_option maxRecDepth 20000
section
variable {H : Type} {enc : TypeId × Value → H}
open Go.ChangeShapes Go.WideShapes Go.ChangeAt
theorem agg_of_cells {v : Value} {n : Nat} (h : v.cells.toList.length = n + 2) : ∃ cs, v = .agg cs := by
 cases v with
 | agg cs => exact ⟨cs, rfl⟩
 | _ => simp [Value.cells] at h
/-- a node that came in -/
theorem open_mg {W : World} {base : Nat} {v : Value} {d : DataW H} {ps : List MemPlace} (_ : Value.okWide Try.prog W .any base 51 v) (hh : DataW.Trod enc Try.prog W 0 (fun _ => true) true 51 v d ps)
  (hsz : (DataW.weights Try.prog 51 d).all (· ≤ reachBytes) = true) : ∃ (m : Msg) (ao : Option Addr) (c : Nat) (ub : Option Addr) (bc : Nat), v = .agg #[.int .i64 m.frm, .int .i64 m.dst, .int .i64 m.kind, .slice ao m.N.length c, .slice ub m.B.length bc] ∧ IsI W ao m.N.length c m.N ∧ m.N.length ≤ c ∧ c ≤ 9223372036854775807 := by
 have k3 : Try.prog.cellsOf 3 = 1 := by kernel_rfl
 have k49 : Try.prog.cellsOf 49 = 1 := by kernel_rfl
 have k36 : Try.prog.cellsOf 36 = 1 := by kernel_rfl
 have k51 : Try.prog.cellsOf 51 = 5 := by kernel_rfl
 obtain ⟨fuel, h⟩ := hh
 obtain ⟨xs, n, _, hx, hl, hlen, hf⟩ := DataW.trod_struct Try.underlying51 h
 rw [k51] at hl
 obtain ⟨cs, rfl⟩ := agg_of_cells (n := 3) hl
 have hl2 : cs.toList.length = 5 := hl
 obtain ⟨c0, c1, c2, c3, c4, hcs⟩ : ∃ c0 c1 c2 c3 c4, cs.toList = [c0, c1, c2, c3, c4] := by
  match hq : cs.toList, hl2 with
  | [c0, c1, c2, c3, c4], _ => exact ⟨c0, c1, c2, c3, c4, rfl⟩
 obtain rfl : cs = #[c0, c1, c2, c3, c4] := by cases cs; simpa using hcs
 obtain ⟨y0, y1, y2, y3, y4, rfl⟩ : ∃ y0 y1 y2 y3 y4, xs = [y0, y1, y2, y3, y4] := by
  match xs, hlen with
  | [y0, y1, y2, y3, y4], _ => exact ⟨y0, y1, y2, y3, y4, rfl⟩
 have f0 : DataW.trod enc Try.prog W 0 (fun _ => true) true n 3 [c0] = some y0 := by simpa [Value.cells, k3] using hf 0 _ rfl
 have f1 : DataW.trod enc Try.prog W 0 (fun _ => true) true n 3 [c1] = some y1 := by simpa [Value.cells, k3] using hf 1 _ rfl
 have f2 : DataW.trod enc Try.prog W 0 (fun _ => true) true n 3 [c2] = some y2 := by simpa [Value.cells, k3] using hf 2 _ rfl
 have f3 : DataW.trod enc Try.prog W 0 (fun _ => true) true n 49 [c3] = some y3 := by simpa [Value.cells, k49] using hf 3 _ rfl
 have f4 : DataW.trod enc Try.prog W 0 (fun _ => true) true n 36 [c4] = some y4 := by simpa [Value.cells, k36] using hf 4 _ rfl
 obtain rfl : d = .agg [y0.1, y1.1, y2.1, y3.1, y4.1] := (Prod.mk.inj hx).1
 have hw : (DataW.weightsEach Try.prog [3, 3, 3, 49, 36] [y0.1, y1.1, y2.1, y3.1, y4.1]).all (· ≤ reachBytes) = true := by
  simp only [DataW.weights, Try.underlying51] at hsz
  exact hsz
 have hw3 := weights_arg hw (j := 3) (t := 49) (d := y3.1) rfl rfl
 have hw4 := weights_arg hw (j := 4) (t := 36) (d := y4.1) rfl rfl
 obtain ⟨z0, e0, _, _⟩ := DataW.trod_int Try.underlying3 f0
 obtain ⟨z1, e1, _, _⟩ := DataW.trod_int Try.underlying3 f1
 obtain ⟨z2, e2, _, _⟩ := DataW.trod_int Try.underlying3 f2
 obtain ⟨ao, q, c, l, e3, i3, hle, hc9, _⟩ := open_nums_cells Try.underlying49 Try.underlying2 (by kernel_rfl) (by kernel_rfl) f3 hw3
 have hv4 : ∃ a n c, c4 = .slice a n c := by
  rcases Deep.open_slice Try.underlying36 f4 with ⟨hcs, _⟩ | ⟨ad, n', c', m, k, D, Pl, hcs, _⟩
  ·exact ⟨none, 0, 0, by simpa using hcs⟩
  ·exact ⟨_, _, _, by simpa using hcs⟩
 have f4' : DataW.Trod enc Try.prog W 0 (fun _ => true) true 36 c4 y4.1 y4.2 := by
  obtain ⟨a, n1, c1, rfl⟩ := hv4
  exact ⟨n, by simpa [Value.cells] using f4⟩
 obtain ⟨bo, q2, d2, ls, e4, i4, _, _⟩ := open_bytess Try.underlying36 Try.underlying29 Try.underlying5 (by kernel_rfl) (by kernel_rfl) (by kernel_rfl) (by kernel_rfl) hv4 f4' hw4
 simp only [List.cons.injEq, and_true] at e0 e1 e2 e3
 subst e0 e1 e2 e3 e4
 have hq := i3.len; have hq2 := i4.len
 subst hq hq2
 exact ⟨⟨z0, z1, z2, l, ls⟩, _, _, _, _, rfl, i3, hle, by omega⟩
end
/-- two of them, and a block that stays -/
structure Two (w wr : World) (A Za Zb : List Nat) (ca cb : Nat) (Sa Sb : Mn) (H : Nat) (o : Obj) : Prop where
 sa : Sy wr A Za ca 3 Sa
 sb : Sy wr A Zb cb 3 Sb
 dis : Dis Za Zb
 bel : Below w.heap.size w wr
 age : ∀ b ∈ A, w.heap.size ≤ b
 hA : H ∉ A
 hh : wr.heap[H]? = some o
section
variable {w wr w2 : World} {A Za Zb : List Nat} {ca cb : Nat} {Sa Sb S' : Mn} {H : Nat} {o : Obj}
theorem Two.swap (h : Two w wr A Za Zb ca cb Sa Sb H o) : Two w wr A Zb Za cb ca Sb Sa H o := ⟨h.sb, h.sa, fun b hb hx => h.dis b hx hb, h.bel, h.age, h.hA, h.hh⟩
theorem Two.left (h : Two w wr A Za Zb ca cb Sa Sb H o) (hp : SyP wr w2 A Za ca 3 S') : ∃ A' Za', Two w w2 A' Za' Zb ca cb S' Sb H o := by
 obtain ⟨A2, Z2, h2, m2⟩ := hp
 have hza := h.sa.zA
 have hzb := h.sb.zA
 refine ⟨A2, Z2, h2, h.sb.keep m2.mv.only hza (fun b hb hm => h.dis b hm hb) m2.ext m2.sub h2.alt, fun b hb hx => ?_, h.bel.trans (m2.mv.only.below h.bel.size (fun b hb => h.age b (hza b hb))), fun b hb => ?_, fun hm => ?_, m2.mv.only.keeps h.hh (fun hm => h.hA (hza _ hm))⟩
 ·rcases m2.mv.gr b hb with h1 | h1
  ·exact h.dis b h1 hx
  ·have := h.sb.alt b (hzb b hx); omega
 ·rcases m2.ext b hb with h1 | h1
  ·exact h.age b h1
  ·exact Nat.le_trans h.bel.size h1
 ·rcases m2.ext _ hm with h1 | h1
  ·exact h.hA h1
  ·have := lt_of_heap h.hh; omega
theorem Two.right (h : Two w wr A Za Zb ca cb Sa Sb H o) (hp : SyP wr w2 A Zb cb 3 S') : ∃ A' Zb', Two w w2 A' Za Zb' ca cb Sa S' H o := by
 obtain ⟨A', Z', h2⟩ := h.swap.left hp
 exact ⟨A', Z', h2.swap⟩
theorem done_same {s : Rp} {k : Dk} (h1 : k.off = false) (h2 : s.lives = k.lives) : doneS s k = s := by
 have hd : doneM s k = s.done := by
  unfold doneM
  rw [h1, h2]; simp
 unfold doneS
 rw [hd]
theorem strange_bad {s : Rp} {m : Msg} (h1 : s.own = 0) (h2 : s.n = 3) (h : ¬ (m.dst = 0 ∧ 0 < m.frm ∧ m.frm < 3)) : badM s m = true := by
 unfold badM
 rw [h1, h2]
 by_cases a : m.dst = 0
 ·by_cases b : m.frm = 0
  ·simp [b]
  ·by_cases c : m.frm < 0
   ·simp [c]
   ·have : (3 : Int) ≤ m.frm := by omega
    simp [this]
 ·simp [a]
theorem ownMs_nil {base : Nat} {v : Value} (h : OwnMs w A base v []) : ∃ ao c, v = .slice ao 0 c := by
 obtain ⟨ps, h1, h2, h3⟩ := h
 have hl : ps = [] := List.map_eq_nil_iff.1 h1
 subst hl
 rcases h2.2 with ⟨rfl, _⟩ | ⟨g, cap, cur, rfl, _⟩
 ·exact ⟨_, _, rfl⟩
 ·exact ⟨_, _, rfl⟩
end
end Go.Proofs.Ytnicaicjgaoolaa
