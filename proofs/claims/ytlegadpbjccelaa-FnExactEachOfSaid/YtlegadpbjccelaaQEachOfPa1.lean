/-
  The parts of a value, by the program, as data. Conditions: cells of at most 2^20 bytes.
-/
import Derived.Test.YtlegadpbjccelaaQEachOfAd3
set_option linter.unusedVariables false
set_option linter.unusedSimpArgs false
set_option maxRecDepth 100000
namespace Go.Proofs.Ytlegadpbjccelaa
open Go.RowKit

def eachC (cs : List Cell) : Int := if (valOfM cs).2 = 0 then (if (valOfM cs).1.kind = 5 ∨ (valOfM cs).1.kind = 6 then 0 else 6) else (valOfM cs).2
noncomputable def eachL (cs : List Cell) : List V := if (valOfM cs).2 = 0 then (if (valOfM cs).1.kind = 5 ∨ (valOfM cs).1.kind = 6 then (valOfM cs).1.kids else []) else []

end Go.Proofs.Ytlegadpbjccelaa
