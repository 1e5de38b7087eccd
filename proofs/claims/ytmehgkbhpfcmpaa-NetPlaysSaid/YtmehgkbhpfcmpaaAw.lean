/-
  Sending, at a net of the call's own; what the document tells of a way that is cut.
-/
import Derived.Test.YtmehgkbhpfcmpaaLose
namespace Go.Proofs.Ytmehgkbhpfcmpaa
open Go.RowKit

/-- messages in new memory, ready to be sent -/
structure Ready (wp w : World) (b : Nat) (l : List Ms) : Prop where
  below : Below wp.heap.size wp w
  new : wp.heap.size ≤ b
  is : IsMsgs w b l
  nums : Nums5 w b l
  kind : ∃ cs fr, w.heap[b]? = some (.cells cs 32 fr)
theorem send_ours {w0 wp w : World} {base a : Nat} {s : Nt} {es : List ((Int × Int) × Bool)} (h : OursN w0 wp base a s es) {b : Nat} {l : List Ms} (hr : Ready wp w b l) (c : Nat) (hc : l.length ≤ c) (hl : s.l.length + l.length ≤ 100000) (hnn : s.nodes ≤ 64) (hrm : s.room ≤ 65536) (q : Int) (n : Nat) (hn : l.length = n) (s' : Nt) (hs' : sendAll s es l = s') (hq : q = ((s'.l.length - s.l.length : Nat) : Int)) :
    Calls Try.prog 11 #[.pointer (some ⟨a, 0, none⟩), .slice (some ⟨b, 0, none⟩) n c] w fun e w' => e = .returned (.int .i64 q) ∧ OursN w0 w' base a s' es := by
  subst hs' hn hq
  obtain ⟨g, mb, hN⟩ := h.is
  have hw := h.later hr.below
  have hg : g ≠ some b := fun e => by have := hN.glt b e; have := hr.new; omega
  exact send_walk (hN.below hr.below) hw.below hw.size b l hr.is hg hr.kind hr.nums hl c hc hnn hrm
theorem ready1 (wp : World) (f t k : Int) : Ready wp (wp.alloc (.cells #[.int .i64 f, .int .i64 t, .int .i64 k, .slice none 0 0, .slice none 0 0] 32)) wp.heap.size [⟨f, t, k, []⟩] := by
  have hh := heap_new wp (.cells #[.int .i64 f, .int .i64 t, .int .i64 k, .slice none 0 0, .slice none 0 0] 32)
  refine ⟨(Below.refl _ _).alloc (Nat.le_refl _) _, Nat.le_refl _, ⟨?_, ?_⟩, ?_, ⟨_, _, hh⟩⟩
  · intro i hi
    obtain rfl : i = 0 := by simpa using hi
    refine ⟨none, 0, ?_, ?_, ?_, ?_, ?_, isI_nil _⟩
    all_goals rw [cell_heap hh]; rfl
  · intro i hi
    obtain rfl : i = 0 := by simpa using hi
    exact Nat.zero_le _
  · intro i off c j hi hc
    obtain rfl : i = 0 := by simpa using hi
    rw [cell_heap hh] at hc
    simp at hc
theorem ready2 (wp : World) (f t k f2 t2 k2 : Int) : Ready wp (wp.alloc (.cells #[.int .i64 f, .int .i64 t, .int .i64 k, .slice none 0 0, .slice none 0 0, .int .i64 f2, .int .i64 t2, .int .i64 k2, .slice none 0 0, .slice none 0 0] 32)) wp.heap.size [⟨f, t, k, []⟩, ⟨f2, t2, k2, []⟩] := by
  have hh := heap_new wp (.cells #[.int .i64 f, .int .i64 t, .int .i64 k, .slice none 0 0, .slice none 0 0, .int .i64 f2, .int .i64 t2, .int .i64 k2, .slice none 0 0, .slice none 0 0] 32)
  refine ⟨(Below.refl _ _).alloc (Nat.le_refl _) _, Nat.le_refl _, ⟨?_, ?_⟩, ?_, ⟨_, _, hh⟩⟩
  · intro i hi
    have hi2 : i = 0 ∨ i = 1 := by simp at hi; omega
    rcases hi2 with rfl | rfl
    all_goals
      refine ⟨none, 0, ?_, ?_, ?_, ?_, ?_, isI_nil _⟩
      all_goals rw [cell_heap hh]; rfl
  · intro i hi
    have hi2 : i = 0 ∨ i = 1 := by simp at hi; omega
    rcases hi2 with rfl | rfl <;> exact Nat.zero_le _
  · intro i off c j hi hc
    have hi2 : i = 0 ∨ i = 1 := by simp at hi; omega
    rcases hi2 with rfl | rfl
    all_goals
      rw [cell_heap hh] at hc
      simp at hc
theorem new_ours (w0 w : World) (base : Nat) (nodes room : Int) (h1 : 1 ≤ nodes) (h2 : nodes ≤ 64) (h3 : 1 ≤ room) (h4 : room ≤ 65536) (hb : Below base w0 w) (hs : base ≤ w.heap.size) :
    Calls Try.prog 9 #[.int .i64 nodes, .int .i64 room] w fun e w' => ∃ a, e = .returned (.tuple #[.pointer (some ⟨a, 0, none⟩), .int .i64 0]) ∧ OursN w0 w' base a (newN nodes room) [] := by
  refine (new_ok base nodes room w h1 h2 h3 h4 hs).mono ?_
  rintro e w' ⟨a, mb, rfl, hN, hb', _⟩
  exact ⟨a, rfl, ⟨none, mb, hN⟩, hb.trans (hb'.mono hs), Nat.le_trans hs hb'.size⟩
theorem len_ours {w0 w : World} {base a : Nat} {s : Nt} {es : List ((Int × Int) × Bool)} (h : OursN w0 w base a s es) :
    Calls Try.prog 16 #[.pointer (some ⟨a, 0, none⟩)] w fun e w' => e = .returned (.int .i64 (s.l.length : Int)) ∧ w = w' := by
  obtain ⟨g, mb, hN⟩ := h.is
  exact len_any hN

def aw2 : Nt := ⟨2, 4, [⟨0, 1, 7, []⟩, ⟨1, 0, 0, []⟩]⟩
def aw3 : Nt := ⟨2, 4, [⟨1, 0, 0, []⟩]⟩
set_option maxHeartbeats 4000000 in
set_option maxRecDepth 100000 in
theorem awake_any (W : World) : Calls Try.prog 8 #[] W fun e w' => e = .returned (.bool true) ∧ Below W.heap.size W w' := by
  go_enter Try.func8, Try.ntmps8
  go_wp2_with fail
  refine (new_ours W W W.heap.size 2 4 (by decide) (by decide) (by decide) (by decide) (Below.refl _ _) (Nat.le_refl _)).mono ?_
  rintro e w1 ⟨a, rfl, hu⟩
  have HU1 := Lib.hid hu; clear hu
  go_wp2_with fail
  refine (cut_any HU1.out 0 1 true rfl rfl (by decide)).mono ?_
  rintro e w2 ⟨rfl, hu⟩
  have HU2 := Lib.hid hu; clear hu
  go_wp2_with fail
  refine (send_ours HU2.out (ready1 w2 0 1 0) 1 (by decide) (by decide) (by decide) (by decide) 0 1 rfl (newN 2 4) rfl rfl).mono ?_
  rintro e w3 ⟨rfl, hu⟩
  have HU3 := Lib.hid hu; clear hu
  go_wp2_with fail
  refine (heal_any HU3.out).mono ?_
  rintro e w4 ⟨rfl, hu⟩
  have HU4 := Lib.hid hu; clear hu
  go_wp2_with fail
  refine (send_ours HU4.out (ready2 w4 0 1 7 1 0 0) 2 (by decide) (by decide) (by decide) (by decide) 2 2 rfl aw2 rfl rfl).mono ?_
  rintro e w5 ⟨rfl, hu⟩
  have HU5 := Lib.hid hu; clear hu
  go_wp2_with fail
  refine (take_some HU5.out 0 (by decide) (by decide) (by decide)).mono ?_
  rintro e w6 ⟨v, rfl, hown, hu⟩
  have HU6 := Lib.hid (hu.later ((Below.refl _ _).alloc (Nat.le_refl _) (.cells #[.int .i64 0, .int .i64 1, .int .i64 7, v, .slice none 0 0] 32)))
  have HLN := Lib.hid (len_ours HU6.out)
  obtain ⟨av, cv, rfl, _⟩ := hown.isI
  have HBF := Lib.hid HU6.out.below
  clear hown hu
  have e1 : (getN aw2 0).from_ = 0 := rfl
  have e2 : (getN aw2 0).to_ = 1 := rfl
  have e3 : (getN aw2 0).kind = 7 := rfl
  have e4 : (getN aw2 0).ns.length = 0 := rfl
  have e5 : ((loseN aw2 0).l.length : Int) = 1 := rfl
  rw [e1, e2, e3, e4]
  rw [e5] at HLN
  unfold msgV
  go_wp2_with fail
  refine HLN.out.mono ?_
  rintro e w7 ⟨rfl, rfl⟩
  go_wp2_with fail
  go_ret
  exact ⟨rfl, HBF.out⟩
end Go.Proofs.Ytmehgkbhpfcmpaa
