/-
  Values with their parts, and what the program's walk from cells to a value returns. Conditions: at most 2^20 cells.
-/
import Derived.Test.YtfmhfdegkpbeiaaGreatDoorQFormatProgramQFormatProgramEnv
import Derived.Test.YtfmhfdegkpbeiaaGreatDoorQFormatProgramQFormatProgramV1
import Derived.Test.YtfmhfdegkpbeiaaGreatDoorQFormatProgramQFormatProgramPgD
set_option linter.unusedVariables false
set_option linter.unusedSimpArgs false
set_option maxRecDepth 100000
namespace Go.Proofs.YtfmhfdegkpbeiaaGreatDoor
open Go.RowKit

inductive V where
  | mk (kind num : Int) (text : ByteArray) (keys : List ByteArray) (kids : List V)
  deriving Inhabited

abbrev keyRow (k : ByteArray) : List D := [dS k]

mutual
def V.row : V → List D
  | .mk k n t ks kids => [dI k, dI n, dS t, .sl 1 (ks.map keyRow), .sl 5 (V.rows kids)]
def V.rows : List V → List (List D)
  | [] => []
  | v :: r => V.row v :: V.rows r
end

def V.zero : V := .mk 0 0 noS [] []

end Go.Proofs.YtfmhfdegkpbeiaaGreatDoor
