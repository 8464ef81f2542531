/-
  An object out of keys and values, by the reference. Conditions: none.
-/
import Derived.Test.YtlegadpbjccelaaQEachOfG16
set_option linter.unusedVariables false
set_option linter.unusedSimpArgs false
set_option maxRecDepth 100000
namespace Go.Proofs.Ytlegadpbjccelaa
open Go.RowKit

def objK (keys : List ByteArray) : Nat → List ByteArray
  | 0 => []
  | i + 1 => insK (keys.getD i default) (objK keys i)
def objX {α : Type} [Inhabited α] (keys : List ByteArray) (vals : List α) : Nat → List α
  | 0 => []
  | i + 1 => insX (keys.getD i default) (vals.getD i default) (objK keys i) (objX keys vals i)

end Go.Proofs.Ytlegadpbjccelaa
