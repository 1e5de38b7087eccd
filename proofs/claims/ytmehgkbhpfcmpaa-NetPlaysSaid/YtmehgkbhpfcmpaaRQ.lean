/-
  The program's net and the document's, side by side.
-/
import Derived.Test.YtmehgkbhpfcmpaaRS
import Derived.Test.YtmehgkbhpfcmpaaGT
import Derived.Test.YtmehgkbhpfcmpaaGArg
import Derived.Test.YtmehgkbhpfcmpaaAw
namespace Go.Proofs.Ytmehgkbhpfcmpaa.G
open Go.RowKit Go.Proofs.Ytmehgkbhpfcmpaa
theorem rows_keeps {w w' : World} {base n : Nat} {e : TypeId} {k : Nat} {v : Value} {xs : List Value} (h : w.ownsRow base e k v n xs) (hk : KeepsD w w') (h1 : e ≠ 60) (h2 : e ≠ 32) : w'.ownsRow base e k v n xs := by
  refine ⟨h.1, ?_⟩
  rcases h.2 with h3 | ⟨g, cap, cur, rfl, hg, hh, r⟩
  · exact .inl h3
  · exact .inr ⟨g, cap, cur, rfl, hg, hk _ _ _ _ hh h1 h2, r⟩
theorem ownM_keeps {w w' : World} {base : Nat} {m : Mg} {v u : Value} (h : OwnM w base m v u) (hk : KeepsD w w') : OwnM w' base m v u := by
  refine ⟨rows_keeps h.ns hk (by decide) (by decide), ?_⟩
  obtain ⟨vs, h1, h2, h3, h4⟩ := h.bs
  exact ⟨vs, h1, rows_keeps h2 hk (by decide) (by decide), h3, fun i hi => rows_keeps (h4 i hi) hk (by decide) (by decide)⟩
theorem IsDoc.keeps {w w' : World} {base d : Nat} {s : Nt} {es : List ((Int × Int) × Bool)} (h : IsDoc w base d s es) (hk : KeepsD w w') : IsDoc w' base d s es := by
  obtain ⟨⟨cs, v, ps, h1, h2, h3, h4, h5, h6, h7, h8⟩, h9⟩ := h
  exact ⟨⟨cs, v, ps, hk _ _ _ _ h1 (by decide) (by decide), h2, h3, h4, h5, h6, rows_keeps h7 hk (by decide) (by decide), ⟨h8.ms, fun x hx => ownM_keeps (h8.own x hx) hk, h8.one⟩⟩, h9⟩
/-- the program's net at s, the document's at t -/
structure Two (B : Nat) (W w : World) (a d : Nat) (s : Nt) (es : List ((Int × Int) × Bool)) (t : Nt) (fs : List ((Int × Int) × Bool)) : Prop where
  net : ∃ g mb, IsNet w B a mb g s es
  doc : IsDoc w B d t fs
  below : Below B W w
  size : B ≤ w.heap.size
section
variable {B a d : Nat} {W w w' : World} {s s' t t' : Nt} {es es' fs fs' : List ((Int × Int) × Bool)}
theorem Two.ours (h : Two B W w a d s es t fs) : OursN w w B a s es := ⟨h.net, Below.refl _ _, h.size, KeepsD.refl _⟩
theorem Two.step_net (h : Two B W w a d s es t fs) (k : OursN w w' B a s' es') : Two B W w' a d s' es' t fs :=
  ⟨k.is, h.doc.keeps k.keep, h.below.trans k.below, k.size⟩
theorem IsDoc.lt (h : IsDoc w B d t fs) : d < w.heap.size := by
  obtain ⟨⟨cs, v, ps, h1, _⟩, _⟩ := h
  exact lt_of_heap h1
theorem Two.step_doc (h : Two B W w a d s es t fs) (k : IsDoc w' B d t' fs') (ho : Only [d] w w') : Two B W w' a d s es t' fs' := by
  obtain ⟨g, mb, hn⟩ := h.net
  obtain ⟨⟨cs, v, ps, h1, _⟩, hge⟩ := h.doc
  have hnr : NoRow w [d] := by
    intro j hj cur
    rw [List.mem_singleton.1 hj, h1]; simp
  have hN := hn
  obtain ⟨⟨vv, qs, n1, n2, n3, n4⟩, ⟨⟨arr, c, n5, _⟩, _, _⟩, _, _⟩ := hn
  refine ⟨⟨g, mb, hN.keep ho ?_ ?_ ?_ hnr⟩, k, h.below.trans (ho.below h.size (by simpa using hge)), Nat.le_trans h.size ho.size⟩
  · intro hm
    rw [List.mem_singleton.1 hm, h1] at n1
    simp at n1
  · intro hm
    rw [List.mem_singleton.1 hm, h1] at n5
    simp at n5
  · intro b hb hm
    obtain ⟨_, cur, hc⟩ := rows_block n2 (n3.trans hb)
    rw [List.mem_singleton.1 hm, h1] at hc
    simp at hc
theorem Two.later (h : Two B W w a d s es t fs) (hb : Below w.heap.size w w') : Two B W w' a d s es t fs := by
  obtain ⟨g, mb, hn⟩ := h.net
  exact ⟨⟨g, mb, hn.below hb⟩, h.doc.below hb, h.below.trans (hb.mono h.size), Nat.le_trans h.size hb.size⟩
theorem only_doc_cell (h : IsDoc w B d t fs) (ho : Only [d] w w') {X i : Nat} {v : Value} (hX : X ≠ d) (hc : w.cell? ⟨X, i, none⟩ = some v) : w'.cell? ⟨X, i, none⟩ = some v := by
  have hlt : X < w.heap.size := by
    unfold World.cell? at hc
    simp only at hc
    cases hq : w.heap[X]? with
    | none => rw [hq] at hc; simp at hc
    | some o => exact lt_of_heap hq
  rw [World.cell?_of_block (ho.block X hlt (by simpa using hX))]
  exact hc
theorem send_zero {w0 : World} {base : Nat} (h : OursN w0 w base a s es) (ao : Option Addr) (c : Nat) :
    Calls Try.prog 11 #[.pointer (some ⟨a, 0, none⟩), .slice ao 0 c] w fun e w' => e = .returned (.int .i64 0) ∧ OursN w0 w' base a s es := by
  go_enter Try.func11, Try.ntmps11
  go_wp2_with fail
  go_loopw [5, 10] (fun v i wr => v = .int .i64 0 ∧ i = .int .i64 0 ∧ wr = w) (fun _ i _ => 0)
  case atStart => exact ⟨rfl, rfl, rfl⟩
  case round =>
    obtain ⟨rfl, rfl, rfl⟩ := hrel
    go_wp2_with fail
    go_ret
    exact ⟨rfl, h⟩
end
/-- what waits is light; so many wait at most -/
structure Fine (nodes room : Int) (s : Nt) (q : Nat) : Prop where
  nodes : s.nodes = nodes
  room : s.room = room
  few : s.l.length ≤ q
  light : ∀ m ∈ s.l, LightM m
theorem Fine.get {nodes room : Int} {s : Nt} {q k : Nat} (h : Fine nodes room s q) (hk : k < s.l.length) : LightM (getN s k) := by
  refine h.light _ ?_
  unfold getN
  simp only [List.getD, List.getElem?_eq_getElem hk, Option.getD_some]
  exact List.getElem_mem _
theorem Fine.lose {nodes room : Int} {s : Nt} {q k : Nat} (h : Fine nodes room s q) : Fine nodes room (loseN s k) q := by
  refine ⟨h.nodes, h.room, ?_, fun m hm => h.light m (List.mem_of_mem_eraseIdx hm)⟩
  show (s.l.eraseIdx k).length ≤ q
  have := List.length_eraseIdx_le s.l k
  have := h.few
  omega
theorem Fine.more {nodes room : Int} {s : Nt} {q q' : Nat} (h : Fine nodes room s q) (hq : q ≤ q') : Fine nodes room s q' := ⟨h.nodes, h.room, by have := h.few; omega, h.light⟩
theorem Fine.copy {nodes room : Int} {s : Nt} {q k : Nat} (h : Fine nodes room s q) (hk : k < s.l.length) : Fine nodes room (copyN s k) (q + 1) := by
  refine ⟨h.nodes, h.room, ?_, fun m hm => ?_⟩
  · show (s.l ++ [_]).length ≤ q + 1
    have := h.few
    simp; omega
  · rcases List.mem_append.1 hm with hm | hm
    · exact h.light m hm
    · rw [List.mem_singleton.1 hm]; exact h.get hk
theorem Fine.one {nodes room : Int} {s : Nt} {q : Nat} {es : List ((Int × Int) × Bool)} {m : Mg} (h : Fine nodes room s q) (hm : LightM m) : Fine nodes room (sendOne s es m) (q + 1) := by
  unfold sendOne
  split
  · refine ⟨h.nodes, h.room, ?_, fun x hx => ?_⟩
    · show (s.l ++ [_]).length ≤ q + 1
      have := h.few
      simp; omega
    · rcases List.mem_append.1 hx with hx | hx
      · exact h.light x hx
      · rw [List.mem_singleton.1 hx]; exact hm
  · exact h.more (by omega)
theorem Fine.all {nodes room : Int} {es : List ((Int × Int) × Bool)} (l : List Mg) : ∀ {s : Nt} {q : Nat}, Fine nodes room s q → (∀ m ∈ l, LightM m) → Fine nodes room (sendAll s es l) (q + l.length) := by
  induction l with
  | nil => intro s q h _; exact h
  | cons m l ih =>
    intro s q h hl
    have := ih (h.one (es := es) (hl m (by simp))) (fun x hx => hl x (by simp [hx]))
    rw [show q + (m :: l).length = q + 1 + l.length by simp; omega]
    exact this
theorem sent_step (s : Nt) (es : List ((Int × Int) × Bool)) (m : Mg) : (sendOne s es m).l.length = s.l.length + (if goes s es m then 1 else 0) := by
  unfold sendOne
  split <;> simp
end Go.Proofs.Ytmehgkbhpfcmpaa.G
