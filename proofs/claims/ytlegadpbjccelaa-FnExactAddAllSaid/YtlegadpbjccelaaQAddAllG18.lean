/-
  DropKey: a value without one of its keys, by the program and by the reference. Conditions: none.
-/
import Derived.Test.YtlegadpbjccelaaQAddAllG17
set_option linter.unusedVariables false
set_option linter.unusedSimpArgs false
set_option maxRecDepth 100000
namespace Go.Proofs.Ytlegadpbjccelaa
open Go.RowKit

theorem keyed_cells (k : ByteArray) (v : V) : keyed k v.cells = v.cellsK k := by cases v; rfl

theorem pcs_cells : ∀ (ks : List ByteArray) (vs : List V), ks.length = vs.length → ∀ i, i ≤ ks.length → pcs ks (vs.map V.cells) i = V.kidsC (vs.take i) (ks.take i)
  | ks, vs, hl, 0, _ => by simp [pcs, V.kidsC]
  | ks, vs, hl, i + 1, hi => by
    have ih := pcs_cells ks vs hl i (by omega)
    have e : (vs.map V.cells).getD i default = (vs.getD i default).cells := by
      have : i < vs.length := by omega
      simp [this]
    rw [pcs, ih, e, keyed_cells, take_step (l := vs) (by omega), take_step (l := ks) (by omega), V.kidsC_app _ _ _ _ (by simp [hl])]

end Go.Proofs.Ytlegadpbjccelaa
