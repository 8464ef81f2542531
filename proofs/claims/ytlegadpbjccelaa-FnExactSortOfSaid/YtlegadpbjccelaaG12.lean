/-
  DeepOf: all values in a value, by the program and by the reference. Conditions: none.
-/
import Derived.Test.YtlegadpbjccelaaG11
set_option linter.unusedVariables false
set_option linter.unusedSimpArgs false
set_option maxRecDepth 100000
namespace Go.Proofs.Ytlegadpbjccelaa
open Go.RowKit



theorem ofOneD_fn {f : FuncId} (cs : List Cell) (hf : fitsC cs) (oc : Int) (ov : V)
    (hc : (valOfM cs).2 = 0 → Fun env.P f [.agg (valOfM cs).1.rowP] (.d (outD oc ov)) []) (hg : (valOfM cs).2 = 0 → ov.good ∧ ov.count ≤ 1048576) :
    Fun env.P 139 [cellsD cs, .v (.func (.func f) #[] #[])] (.agg [vI .i64 (oneCode cs oc), .og 0 0]) [.gr 5 91 ((oneCells cs oc ov).map Cell.row) 0 false] :=
  ofOneP_fn cs hf oc ov hc hg





end Go.Proofs.Ytlegadpbjccelaa
