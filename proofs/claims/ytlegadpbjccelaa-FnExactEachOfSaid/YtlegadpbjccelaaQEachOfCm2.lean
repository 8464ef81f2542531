/-
  The program's way of comparing values. Conditions: values of at most 2^20 cells.
-/
import Derived.Test.YtlegadpbjccelaaQEachOfP2
import Derived.Test.YtlegadpbjccelaaQEachOfPgD
import Derived.Test.YtlegadpbjccelaaQEachOfG3
import Derived.Test.YtlegadpbjccelaaQEachOfMk1
import Derived.Test.YtlegadpbjccelaaQEachOfC2
import Derived.Test.YtlegadpbjccelaaQEachOfV6
import Derived.Test.YtlegadpbjccelaaQEachOfTh1
import Derived.Lib.Bytealg
import Derived.Lib.Walk
set_option linter.unusedVariables false
set_option linter.unusedSimpArgs false
set_option maxRecDepth 100000
namespace Go.Proofs.Ytlegadpbjccelaa
open Go.RowKit

theorem V.count_eq (v : V) : v.count = V.counts v.kids + 1 := by cases v; rfl

theorem valOf_fn' (cs : List Cell) (hf : fitsC cs) : Fun env.P 92 [cellsD cs] (.tup [.d (.agg (valOfM cs).1.rowP), .d (dI (valOfM cs).2)]) [] := by
  have h := valOf_fn cs hf.1 hf.2
  rwa [V.row_eq] at h

end Go.Proofs.Ytlegadpbjccelaa
