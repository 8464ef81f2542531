/-
  The first node of a tree that nothing is about, by the program and by the reference. Conditions: right nodes, at most 1048.
-/
import Derived.Test.YtlegadpbjccelaaTrA
set_option linter.unusedVariables false
set_option linter.unusedSimpArgs false
set_option maxRecDepth 100000
namespace Go.Proofs.Ytlegadpbjccelaa
open Go.RowKit


end Go.Proofs.Ytlegadpbjccelaa
