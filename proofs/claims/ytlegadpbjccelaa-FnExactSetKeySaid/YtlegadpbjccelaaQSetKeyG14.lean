/-
  Operations of two values; a part of a value by another value. Conditions: none.
-/
import Derived.Test.YtlegadpbjccelaaQSetKeyG10
set_option linter.unusedVariables false
set_option linter.unusedSimpArgs false
set_option maxRecDepth 100000
namespace Go.Proofs.Ytlegadpbjccelaa
open Go.RowKit

/-- What an operation of two values gives. -/
def twoCode (cs ds : List Cell) (oc : Int) : Int := if (valOfM cs).2 = 0 then oneCode ds oc else (valOfM cs).2
def twoCells (cs ds : List Cell) (oc : Int) (ov : V) : List Cell := if (valOfM cs).2 = 0 then oneCells ds oc ov else []

end Go.Proofs.Ytlegadpbjccelaa
