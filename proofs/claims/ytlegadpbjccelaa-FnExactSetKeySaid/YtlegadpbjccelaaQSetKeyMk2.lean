/-
  What the laws' marks and holds do to slices of integers and to their results; two arguments' sizes. Conditions: none.
-/
import Derived.Test.YtlegadpbjccelaaQSetKeyMk1
import Derived.Test.YtlegadpbjccelaaQSetKeyPgD
import Derived.Test.YtlegadpbjccelaaQSetKeyC2
import Derived.Test.YtlegadpbjccelaaQSetKeyV6
import Derived.Test.YtlegadpbjccelaaQSetKeyG3
import Derived.Test.YtlegadpbjccelaaQSetKeyTh1
set_option linter.unusedVariables false
set_option linter.unusedSimpArgs false
set_option maxRecDepth 100000
namespace Go.Proofs.Ytlegadpbjccelaa
open Go.RowKit

theorem szS_ok' {cs : List Cell} {l : Int} (hl : l ≤ 1048576) (h : 0 ≤ szS cs l) : cs.length ≤ 1048576 ∧ ∀ c ∈ cs, c.text.size ≤ 1048576 ∧ c.key.size ≤ 1048576 := by
  unfold szS at h
  split at h
  · omega
  · exact ⟨by omega, szL_text cs _ h (by omega)⟩

end Go.Proofs.Ytlegadpbjccelaa
