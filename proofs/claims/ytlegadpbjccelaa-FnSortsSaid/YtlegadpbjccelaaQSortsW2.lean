/-
  What the program's and the reference's functions on names and blanks return. Conditions: texts of at most 2^20 bytes.
-/
import Derived.Test.YtlegadpbjccelaaQSortsEnv
import Derived.Test.YtlegadpbjccelaaQSortsOr1
import Derived.Test.YtlegadpbjccelaaQSortsPgC
import Derived.Test.YtlegadpbjccelaaQSortsV1
set_option linter.unusedVariables false
set_option linter.unusedSimpArgs false
set_option maxRecDepth 100000
namespace Go.Proofs.Ytlegadpbjccelaa
open Go.RowKit

abbrev dY (c : Int) : D := .v (.int .u8 c)

end Go.Proofs.Ytlegadpbjccelaa
