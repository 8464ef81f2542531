/-
  Operations of one value that have captured something; a part of a value by its number. Conditions: none.
-/
import Derived.Test.YtlegadpbjccelaaQObjectValueCm3
set_option linter.unusedVariables false
set_option linter.unusedSimpArgs false
set_option maxRecDepth 100000
namespace Go.Proofs.Ytlegadpbjccelaa
open Go.RowKit

/-- What an operation's result is as data. -/
abbrev resD (c : Int) (cs : List Cell) : D := .agg [dI c, cellsD cs]

end Go.Proofs.Ytlegadpbjccelaa
