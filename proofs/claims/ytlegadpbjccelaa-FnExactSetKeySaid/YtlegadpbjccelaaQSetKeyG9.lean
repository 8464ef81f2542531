/-
  Operations of one value that have captured something; a part of a value by its number. Conditions: none.
-/
import Derived.Test.YtlegadpbjccelaaQSetKeyCm3
set_option linter.unusedVariables false
set_option linter.unusedSimpArgs false
set_option maxRecDepth 100000
namespace Go.Proofs.Ytlegadpbjccelaa
open Go.RowKit

theorem V.zero_fine : V.zero.fine := ⟨zero_good, by decide, by decide⟩

/-- What an operation's result is as data. -/
abbrev resD (c : Int) (cs : List Cell) : D := .agg [dI c, cellsD cs]

theorem l3Bad_fn (c : Int) : Fun env.P 118 [dI c] (.d (resD c [])) [] := FunQ.pubA rfl (l3BadS_fn c)

theorem outC_len200 (c : Int) {w : V} (h : w.fine) : (outC c w).length ≤ 1048576 := by
  unfold outC
  split
  · rw [V.cells, V.cellsK_length]; have := h.2.1; omega
  · simp
theorem oneCells_len (cs : List Cell) (c : Int) {w : V} (h : (valOfM cs).2 = 0 → w.fine) : (oneCells cs c w).length ≤ 1048576 := by
  unfold oneCells
  split
  · exact outC_len200 c (h (by assumption))
  · simp

end Go.Proofs.Ytlegadpbjccelaa
