/-
  An array out of values, by the program and by the reference. Conditions: cells of at most 2^20 bytes.
-/
import Derived.Test.YtlegadpbjccelaaQEachOfCm3
import Derived.Test.YtlegadpbjccelaaQEachOfG3
import Derived.Test.YtlegadpbjccelaaQEachOfC2
import Derived.Test.YtlegadpbjccelaaQEachOfV6
set_option linter.unusedVariables false
set_option linter.unusedSimpArgs false
set_option maxRecDepth 100000
namespace Go.Proofs.Ytlegadpbjccelaa
open Go.RowKit

/-- The first fault of values; the values. -/
def firstV : List (List Cell) → Int
  | [] => 0
  | x :: r => if (valOfM x).2 ≠ 0 then (valOfM x).2 else firstV r
noncomputable def valsV (xs : List (List Cell)) : List V := xs.map fun x => (valOfM x).1
end Go.Proofs.Ytlegadpbjccelaa
