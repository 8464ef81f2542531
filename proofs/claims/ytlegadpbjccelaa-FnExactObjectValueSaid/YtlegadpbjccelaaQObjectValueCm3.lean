/-
  The reference's way of comparing values: parts, keys, comparison; what both ways give. Conditions: none.
-/
import Derived.Test.YtlegadpbjccelaaQObjectValueCm2
import Derived.Test.YtlegadpbjccelaaQObjectValueG3
import Derived.Test.YtlegadpbjccelaaQObjectValueP1
import Derived.Test.YtlegadpbjccelaaQObjectValueP2
import Derived.Test.YtlegadpbjccelaaQObjectValueMk2
set_option linter.unusedVariables false
set_option linter.unusedSimpArgs false
set_option maxRecDepth 100000
namespace Go.Proofs.Ytlegadpbjccelaa
open Go.RowKit

/-- A value that cells may be. -/
def V.fine (v : V) : Prop := v.good ∧ v.count ≤ 200 ∧ v.depth ≤ 20

theorem valOfM_fine {cs : List Cell} (h : (valOfM cs).2 = 0) : (valOfM cs).1.fine ∧ cs = (valOfM cs).1.cells := by
  obtain ⟨h1, h2, h3, h4, _⟩ := valOfM_cells h
  exact ⟨⟨h1, h3, h4⟩, h2⟩

/-- The first cell of a value's cells. -/
theorem V.cells_cons (v : V) : ∃ r, v.cells = ⟨v.kind, v.num, v.text, noS, (v.kids.length : Int)⟩ :: r := by
  cases v; exact ⟨_, rfl⟩

abbrev partR (v : V) : List D := [cellsD v.cells]
end Go.Proofs.Ytlegadpbjccelaa
