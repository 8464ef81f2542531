/-
  SetKey, both sides. Conditions: none.
-/
import Derived.Test.YtlegadpbjccelaaQSetKeySk2
import Derived.Test.YtlegadpbjccelaaQSetKeySk3
set_option linter.unusedVariables false
set_option linter.unusedSimpArgs false
set_option maxRecDepth 100000
namespace Go.Proofs.Ytlegadpbjccelaa
open Go.RowKit

theorem SetKey_both (cs : List Cell) (key : ByteArray) (ds : List Cell) (hf : fitsC cs) (hd : fitsC ds) (hs : key.size ≤ 1048576) : ∃ (code : Int) (rs : List Cell), rs.length ≤ 1048576 ∧
    Fun env.P 52 [cellsD cs, dS key, cellsD ds] (.agg [vI .i64 code, .og 0 0]) [.gr 5 91 (rs.map Cell.row) 0 false] ∧
    Fun env.P 51 [cellsD cs, dS key, cellsD ds] (.d (.agg [dI code, .sl 5 (rs.map Cell.row)])) [] :=
  ⟨_, _, twoCells_len cs ds _ fun h0 h1 => setO_fine (valOfM_fine h0).1 (valOfM_fine h1).1, SetKey_fn cs key ds hf hd hs, SetKeyS_fn cs key ds hf hd hs⟩

end Go.Proofs.Ytlegadpbjccelaa
