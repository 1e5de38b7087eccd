/-
  For whatever program: a law on one operation of a list serves in a region that draws its order. No condition.
-/
import Derived.WalkKit
import Derived.Orders
namespace Go.Proofs.Ytmehgkbhpfcmpaa
open Go.RowKit
theorem wp_two {P : Program} {o : Oper} {a : Act} {w : World} {K : Act → World → Prop} {Q Q' : Exit → Act → World → Prop} (h : o.wp P a w K Q) (hq : ∀ c a w, Q (.panic c) a w → Q' (.panic c) a w) (ho : LetsOut Q → LetsOut Q') : o.wp P a w K Q' := by
  unfold Oper.wp at *
  generalize (execOp a.eval o).run P w = r at *
  unfold Oper.upon at *
  split at h
  · exact h
  · exact h
  · exact h
  · refine h.mono ?_
    intro e w' he
    cases e with
    | returned v => exact he
    | panicked c => exact hq _ _ _ he
    | outgrown => exact ho he
  · exact h
  · exact hq _ _ _ h
  · exact h.elim
theorem step_of_list {P : Program} {w : World} {ops : Array Oper} {o : Oper} {a : Act} {K : Act → World → Prop} {Q : Exit → Act → World → Prop} {E : Prop} (hgd : o.guard = none)
    (h : ∀ Q' : Exit → Act → World → Prop, (∀ a' w', K a' w' → Q' .normal a' w') → wpList P ops Q' [o] a w) :
    if Region.wanted o (yielded ops a.tmps) = true then Oper.wp P o a w K Q else E := by
  rw [if_pos (by simp [Region.wanted, hgd])]
  have hh := h (fun e a' w' => match e with | .normal => K a' w' | _ => False) (fun _ _ k => k)
  unfold wpList at hh
  rw [if_pos (by simp [Region.wanted, hgd])] at hh
  rcases hh with hh | ⟨_, a', w', hh⟩
  · exact wp_two (Oper.wp_mono (fun a w k => k) hh) (fun c a w hq => hq.elim) (fun ⟨a', w', h2⟩ => h2.elim)
  · exact hh.elim
end Go.Proofs.Ytmehgkbhpfcmpaa
