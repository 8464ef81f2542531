/-
  What is proved: the Go function laws.FnExactLowerTree returns true. For all arguments the program's LowerTree gives what the reference's gives, and neither its result nor its arguments share memory with what they should not.
  Conditions: none beyond the row's own (every start that the form admits).
-/
import Derived.Test.YtmmjbpgdkokjgaaGreatRows
import Derived.Test.YtmmjbpgdkokjgaaGreatQLowerTreeHead
import Derived.Test.YtmmjbpgdkokjgaaGreatQLowerTreePgC
import Derived.Test.YtmmjbpgdkokjgaaGreatQLowerTreeZLowerTree
set_option linter.unusedVariables false
namespace Go.Proofs.YtmmjbpgdkokjgaaGreat.fnExactLowerTree
open Go.ChangeShapes Go.WideShapes Go.ChangeAt Go.RowKit

theorem own : ownKnob Tryz.prog.godebug = none := by kernel_rfl
theorem laid : laidOutB Tryz.prog = true := by kernel_rfl

set_option maxRecDepth 100000 in
theorem lifted (os : Os) (started : os.Started) (H : Type) (enc : TypeId × Value → H) :
    ReturnsInHanded {} Tryz.checked os 3 .any (Rows.fnExactLowerTreeSpec.pre6 enc Tryz.prog Tryz.f3 Rows.fnExactLowerTreeRow.domain false) (Rows.fnExactLowerTreeSpec.post enc Tryz.prog Tryz.f3 false true false false) := by
  refine returnsInHanded_of_change (C := Tryz.checked) own started (by kernel_rfl) Tryz.func3
    (ChangeSpec.witness6 (enc := enc) (C := Tryz.checked) false ⟨#[], #[.slice none 0 0], []⟩ 8 (by kernel_rfl) (by kernel_rfl) (by kernel_rfl) (by kernel_rfl)) ?_
  intro W base args ds gs before hval hW hcnd _
  have hval0 : ∀ (j : Nat) (t : TypeId) (v : Value), Tryz.f3.params[j]? = some t → args[j]? = some v → Value.okWide Tryz.prog W .any base t v := hval
  refine law_body (P := Tryz.prog) (n := 9) (tb := 4) laid (by kernel_rfl) (by kernel_rfl) (by kernel_rfl) Tryz.underlying4 rfl (fun ds h => ?_) (fun j t v ht hv => Value.okWide_any_base (hval0 j t v ht hv)) hW fun xs hxs => ?_
  · match ds, h with
    | [_], _ => rfl
  · rw [Tryz.params3] at hxs
    exact lawLowerTree xs hxs

set_option maxRecDepth 100000 in
theorem closed : joinedFacts Tryz.prog 3 Tryz.f3 Rows.fnExactLowerTreeSpec Rows.fnExactLowerTreeRow = true := by
  unfold joinedFacts
  rw [head_may, head_lifts, head_make]
  kernel_rfl

theorem over : Rows.fnExactLowerTreeRow.holds Tryz.pinned (OpenSpec.ofChange Rows.fnExactLowerTreeSpec) :=
  OpenClaim.holds_of_wide 3 Tryz.f3 rfl rfl rfl rfl rfl rfl rfl ⟨rfl, rfl, rfl, rfl, rfl⟩ rfl rfl rfl rfl rfl (by kernel_rfl) Tryz.func3 closed
    (of_decide_eq_true (by kernel_rfl)) (by unfold Func.isWrapper; first | (rw [if_pos (by decide +kernel)]; kernel_rfl) | (rw [if_neg (by decide +kernel)]; exact ⟨rfl, rfl⟩))
    (fun os started H enc _ => lifted os started H enc)

/-- The given statement. -/
theorem proved : Rows.FnExactLowerTreeSaid :=
  over
#print axioms proved
end Go.Proofs.YtmmjbpgdkokjgaaGreat.fnExactLowerTree
