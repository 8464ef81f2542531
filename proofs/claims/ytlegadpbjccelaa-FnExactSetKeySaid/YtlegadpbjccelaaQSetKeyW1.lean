/-
  What the program's and the reference's functions on words and names return. Conditions: none.
-/
import Derived.Test.YtlegadpbjccelaaQSetKeyEnv
import Derived.Test.YtlegadpbjccelaaQSetKeyVal
import Derived.Test.YtlegadpbjccelaaQSetKeyPgC
set_option linter.unusedVariables false
set_option linter.unusedSimpArgs false
set_option maxRecDepth 100000
namespace Go.Proofs.Ytlegadpbjccelaa
open Go.RowKit

/-! ### words -/

def among (l : List ByteArray) (s : ByteArray) : Bool := match l with | [] => false | x :: r => decide (s = x) || among r s

end Go.Proofs.Ytlegadpbjccelaa
