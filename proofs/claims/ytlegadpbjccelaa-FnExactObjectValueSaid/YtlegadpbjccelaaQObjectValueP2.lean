/-
  The parts of a right value in its cells, in plain words: where they begin and end, their keys, their cells; no program in sight. Conditions: none.
-/
import Derived.Test.YtlegadpbjccelaaQObjectValueP1
set_option linter.unusedVariables false
set_option linter.unusedSimpArgs false
namespace Go.Proofs.Ytlegadpbjccelaa
open Go.RowKit

/-- Where part j of a value at k begins. -/
def V.at (v : V) (k j : Nat) : Nat := k + 1 + V.counts (v.kids.take j)

/-- The cells from one place up to another. -/
def cut (cs : List Cell) (a b : Nat) : List Cell := (cs.drop a).take (b - a)

end Go.Proofs.Ytlegadpbjccelaa
