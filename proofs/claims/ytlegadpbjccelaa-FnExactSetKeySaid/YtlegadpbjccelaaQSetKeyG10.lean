/-
  A member of a value by its key: the program's search, the reference's. Conditions: none.
-/
import Derived.Test.YtlegadpbjccelaaQSetKeyG9
set_option linter.unusedVariables false
set_option linter.unusedSimpArgs false
set_option maxRecDepth 100000
namespace Go.Proofs.Ytlegadpbjccelaa
open Go.RowKit

theorem V.obj_keys {v : V} (h : v.good) (hk : v.kind = 6) : v.keys.length = v.kids.length ∧ incr v.keys := by
  obtain ⟨k, n, t, ks, kids⟩ := v
  exact ⟨h.2.2.2.2.2.2.1 hk, h.2.2.2.2.2.2.2.2.2.1⟩

end Go.Proofs.Ytlegadpbjccelaa
