/-
  SetKey: a value with one more key, by the program. Conditions: none.
-/
import Derived.Test.YtlegadpbjccelaaQEachOfOb1
import Derived.Test.YtlegadpbjccelaaQEachOfCm3
import Derived.Test.YtlegadpbjccelaaQEachOfPgE
set_option linter.unusedVariables false
set_option linter.unusedSimpArgs false
set_option maxRecDepth 100000
namespace Go.Proofs.Ytlegadpbjccelaa
open Go.RowKit

theorem OpS1.pub {P : Program} {N : Nm} {tm : Nat → T} {ob ob' : List Ob} {ops : List Oper} {o : Oper} {t : T} {e : TypeId} {z n : Nat} {rows : List (List D)} (k : Nat) (hk : ob[k]? = some (.gr z e rows n false))
    (h : OpS1 P N ops o tm t (ob.set k (.gr z e rows n true)) ob') : OpS1 P N ops o tm t ob ob' := fun tm' hag l Q k' => WL.pub (S := ⟨tm', ob⟩) k hk (h tm' hag l Q k')

end Go.Proofs.Ytlegadpbjccelaa
