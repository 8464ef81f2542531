/-
  The laws of EncodeValue and EncodeAll, walked. Conditions: the table of powers of ten is lent.
-/
import Derived.Test.YtfmhfdegkpbeiaaGreatDoorQCoreTextEn5
import Derived.Test.YtfmhfdegkpbeiaaGreatDoorQCoreTextTd1
set_option linter.unusedVariables false
set_option linter.unusedSimpArgs false
set_option maxRecDepth 100000
namespace Go.Proofs.YtfmhfdegkpbeiaaGreatDoor
open Go.RowKit

theorem cell_nou (c : Cell) : ∀ x ∈ c.row, NoU x := fun x hx => by
  simp only [Cell.row, List.mem_cons, List.not_mem_nil, or_false] at hx
  rcases hx with rfl | rfl | rfl | rfl | rfl <;> exact .v _ (fun n h => by cases h)
theorem cells_nou (cs : List Cell) : NoU (cellsD cs) :=
  .sl _ _ fun r hr x hx => by
    obtain ⟨c, _, rfl⟩ := List.mem_map.1 hr
    exact cell_nou c x hx
end Go.Proofs.YtfmhfdegkpbeiaaGreatDoor
