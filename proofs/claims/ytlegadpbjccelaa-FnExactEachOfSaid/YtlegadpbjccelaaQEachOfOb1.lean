/-
  An object out of keys and values, by the program and by the reference. Conditions: texts and cells of at most 2^20 bytes.
-/
import Derived.Test.YtlegadpbjccelaaQEachOfMp1
import Derived.Test.YtlegadpbjccelaaQEachOfG17
import Derived.Sort.OwnSorted
import Derived.Shelf.Sort.Plain
import Derived.Shelf.Slices.In.SortNone
import Derived.Test.YtlegadpbjccelaaQEachOfV3
import Derived.Test.YtlegadpbjccelaaQEachOfOr1
import Derived.Test.YtlegadpbjccelaaQEachOfEnv
import Derived.Test.YtlegadpbjccelaaQEachOfVal
import Derived.Test.YtlegadpbjccelaaQEachOfPgC
import Derived.Shelf.Lays
import Derived.Test.YtlegadpbjccelaaProg
import Derived.Test.YtlegadpbjccelaaQEachOfAr1
set_option linter.unusedVariables false
set_option linter.unusedSimpArgs false
set_option maxRecDepth 100000
namespace Go.Proofs.Ytlegadpbjccelaa
open Go.RowKit

/-! ### texts that are no texts of the language -/

/-! ### the reference's object -/

/-! ### both sides -/

def badKs (ks : List ByteArray) : Bool := ks.any fun k => !okText k
def objS (ks : List ByteArray) (vs : List V) : V := objV (objK ks ks.length) (objX ks vs ks.length)

noncomputable def obC (ks : List ByteArray) (xs : List (List Cell)) : Int := if 200 < xs.length ∨ ks.length ≠ xs.length then 2 else if badKs ks = true then 5 else if firstV xs ≠ 0 then firstV xs else faultV (objS ks (valsV xs))
end Go.Proofs.Ytlegadpbjccelaa
