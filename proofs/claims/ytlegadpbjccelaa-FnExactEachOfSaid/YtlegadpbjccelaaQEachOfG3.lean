/-
  The program's way of an operation of one value: outcomes and their results; the plain operations' ways to a result. Conditions: none.
-/
import Derived.Test.YtlegadpbjccelaaQEachOfG1
set_option linter.unusedVariables false
set_option linter.unusedSimpArgs false
set_option maxRecDepth 100000
namespace Go.Proofs.Ytlegadpbjccelaa
open Go.RowKit

/-- Cells that may be read: no text in them outgrows the law's bound. -/
def fitsC (cs : List Cell) : Prop := (∀ c ∈ cs, c.text.size ≤ 1048576 ∧ c.key.size ≤ 1048576) ∧ cs.length ≤ 1048576

end Go.Proofs.Ytlegadpbjccelaa
