/-
  Truthy: the program's and the reference's; the law. Conditions: none beyond the law's own.
-/
import Derived.Test.YtojifjbbjnpgbaaGreatQTryCoreV6
set_option linter.unusedVariables false
set_option linter.unusedSimpArgs false
set_option maxRecDepth 100000
namespace Go.Proofs.YtojifjbbjnpgbaaGreat
open Go.RowKit

/-- The kind of a right value is the kind of its first cell. -/
theorem valOfM_kind {cs : List Cell} (h : (valOfM cs).2 = 0) : (valOfM cs).1.kind = (cs.getD 0 default).kind ∧ 1 ≤ cs.length ∧ cs.length ≤ 200 ∧ cellsCode cs = 0 := by
  unfold valOfM at h ⊢
  split at h
  · simp at h
  · rename_i hl
    rw [if_neg hl]
    split at h
    · rename_i hc; exact absurd h hc
    · rename_i hc
      rw [if_neg hc]
      cases hv : valAtM cs (cs.length + 1) 0 with
      | none => rw [hv] at h; simp at h
      | some p =>
        obtain ⟨v, b⟩ := p
        rw [hv] at h
        simp only at h ⊢
        split at h
        · simp at h
        · rename_i hb
          rw [if_neg hb]
          split at h
          · simp at h
          · rename_i hd
            rw [if_neg hd]
            simp only [valAtM] at hv
            rw [if_pos (by omega)] at hv
            split at hv
            · cases hv
            · simp only [Option.some.injEq, Prod.mk.injEq] at hv
              obtain ⟨rfl, _⟩ := hv
              exact ⟨rfl, by omega, by omega, by omega⟩

end Go.Proofs.YtojifjbbjnpgbaaGreat
