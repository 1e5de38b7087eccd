/-
  The document's net: closed facts of its type.
-/
import Derived.Test.YtmehgkbhpfcmpaaGT
namespace Go.Proofs.Ytmehgkbhpfcmpaa.G
open Go.RowKit Go.Proofs.Ytmehgkbhpfcmpaa
def isF : Value → Bool
  | .bool false => true
  | _ => false
theorem isF_eq {v : Value} (h : isF v = true) : v = .bool false := by
  unfold isF at h
  split at h
  · rfl
  · cases h
def isNil : Option Value → Bool
  | some (.slice none 0 0) => true
  | _ => false
theorem isNil_eq {v : Option Value} (h : isNil v = true) : v = some (.slice none 0 0) := by
  unfold isNil at h
  split at h
  · rfl
  · cases h
theorem size44 : (Try.prog.info? 44).map (·.size) = some 4099 := by kernel_rfl
theorem size42 : (Try.prog.info? 42).map (·.size) = some 4096 := by kernel_rfl
theorem size41 : (Try.prog.info? 41).map (·.size) = some 64 := by kernel_rfl
theorem z42_all : (((Try.prog.info? 42).bind (·.zero)).map fun z => z.cells.toList.all isF && z.cells.size == 4096) = some true := by kernel_rfl
theorem z44_all : (((Try.prog.info? 44).bind (·.zero)).map fun z => (z.cells.toList.drop 3).all isF && z.cells.size == 4099 && isNil z.cells[2]?) = some true := by kernel_rfl
/-- the cells of an array of no cut ways -/
theorem built42 : ∃ cs : Array Value, Try.prog.built 42 [] = some cs ∧ cs.size = 4096 ∧ ∀ v ∈ cs.toList, v = .bool false := by
  have h := z42_all
  cases hi : Try.prog.info? 42 with
  | none => rw [hi] at h; cases h
  | some it =>
    rw [hi] at h
    cases hz : it.zero with
    | none => simp [hz] at h
    | some z =>
      simp only [Option.bind_some, hz, Option.map_some, Option.some.injEq, Bool.and_eq_true, beq_iff_eq, List.all_eq_true] at h
      refine ⟨z.cells, ?_, h.2, fun v hv => isF_eq (h.1 v hv)⟩
      have h41 : ∃ i, Try.prog.info? 41 = some i := by
        have := size41
        cases hq : Try.prog.info? 41 with
        | none => rw [hq] at this; cases this
        | some i => exact ⟨i, rfl⟩
      obtain ⟨i, hi41⟩ := h41
      unfold Program.built
      rw [hi, Try.underlying42]
      simp only [hz, hi41]
      rfl
theorem places44 : (match Try.prog.underlying 44 with | some (.struct fields) => fields.toList.mapM (fun f => (Try.prog.info? f.type).map fun i => (f.offset, i.size)) | _ => none) = some [(0, 1), (1, 1), (2, 1), (3, 4096)] := by kernel_rfl
/-- the cells of a new net of the document's -/
theorem built44 (n r : Int) : ∃ cs : Array Value, Try.prog.built 44 [(0, .int .i64 n), (1, .int .i64 r)] = some cs ∧ cs.size = 4099 ∧ cs[0]? = some (.int .i64 n) ∧ cs[1]? = some (.int .i64 r) ∧ cs[2]? = some (.slice none 0 0) ∧ ∀ j, j < 4096 → cs[3 + j]? = some (.bool false) := by
  have h := z44_all
  cases hi : Try.prog.info? 44 with
  | none => rw [hi] at h; cases h
  | some it =>
    rw [hi] at h
    cases hz : it.zero with
    | none => simp [hz] at h
    | some z =>
      simp only [Option.bind_some, hz, Option.map_some, Option.some.injEq, Bool.and_eq_true, beq_iff_eq, List.all_eq_true] at h
      obtain ⟨⟨h1, h2⟩, h3⟩ := h
      have h4 := isNil_eq h3
      refine ⟨(z.cells.setIfInBounds 0 (.int .i64 n)).setIfInBounds 1 (.int .i64 r), ?_, by simp [h2], ?_, ?_, ?_, ?_⟩
      · have hp := places44
        unfold Program.built
        rw [hi]
        cases hu : Try.prog.underlying 44 with
        | none => rw [hu] at hp; cases hp
        | some d =>
          cases d <;> (try (rw [hu] at hp; cases hp; done))
          case struct fields =>
            rw [hu] at hp
            simp only at hp
            simp only [hz, hp]
            generalize z.cells = zc at *
            have hne : zc ≠ #[] := by rintro rfl; simp at h2
            simp [Instr.fill, Value.cells, h2, hne]
      · simp [Array.getElem?_setIfInBounds, h2]
      · simp [Array.getElem?_setIfInBounds, h2]
      · rw [Array.getElem?_setIfInBounds_ne (by omega), Array.getElem?_setIfInBounds_ne (by omega), h4]
      · intro j hj
        rw [Array.getElem?_setIfInBounds_ne (by omega), Array.getElem?_setIfInBounds_ne (by omega)]
        have hl : 3 + j < z.cells.size := by omega
        rw [Array.getElem?_eq_getElem hl]
        congr 1
        refine isF_eq (h1 _ ?_)
        rw [List.mem_iff_getElem?]
        exact ⟨j, by rw [List.getElem?_drop]; simp [hl]⟩
end Go.Proofs.Ytmehgkbhpfcmpaa.G
