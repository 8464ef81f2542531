/-
  What is proved: the Go function laws.FnExactCountCore returns true. For all arguments the program's CountCore gives what the reference's gives, and neither its result nor its arguments share memory with what they should not.
  Conditions: none beyond the row's own (every start that the form admits).
-/
import Derived.Test.YteooogngdejdgaaRows
import Derived.Test.YteooogngdejdgaaEnv
import Derived.Test.YteooogngdejdgaaPgC
import Derived.Test.YteooogngdejdgaaHead
import Derived.Test.YteooogngdejdgaaZCountCore
set_option linter.unusedVariables false
namespace Go.Proofs.Yteooogngdejdgaa.fnExactCountCore
open Go.ChangeShapes Go.WideShapes Go.ChangeAt Go.RowKit

theorem own : ownKnob Try.prog.godebug = none := by kernel_rfl
theorem laid : laidOutB Try.prog = true := by kernel_rfl

set_option maxRecDepth 100000 in
theorem lifted (os : Os) (started : os.Started) (H : Type) (enc : TypeId × Value → H) :
    ReturnsInHanded {} Try.checked os 12 .any (Rows.fnExactCountCoreSpec.pre6 enc Try.prog Try.f12 Rows.fnExactCountCoreRow.domain false) (Rows.fnExactCountCoreSpec.post enc Try.prog Try.f12 false true false false) := by
  refine returnsInHanded_of_change (C := Try.checked) own started (by kernel_rfl) Try.func12
    (ChangeSpec.witness6 (enc := enc) (C := Try.checked) false ⟨#[], #[.slice none 0 0], []⟩ 8 (by kernel_rfl) (by kernel_rfl) (by kernel_rfl) (by kernel_rfl)) ?_
  intro W base args ds gs before hval hW hcnd _
  have hval0 : ∀ (j : Nat) (t : TypeId) (v : Value), Try.f12.params[j]? = some t → args[j]? = some v → Value.okWide Try.prog W .any base t v := hval
  refine law_body (P := Try.prog) (n := 9) (tb := 4) laid (by kernel_rfl) (by kernel_rfl) (by kernel_rfl) Try.underlying4 rfl (fun ds h => ?_) (fun j t v ht hv => Value.okWide_any_base (hval0 j t v ht hv)) hW fun xs hxs => ?_
  · match ds, h with
    | [_], _ => rfl
  · rw [Try.params12] at hxs
    exact lawCountCore xs hxs

set_option maxRecDepth 100000 in
theorem closed : joinedFacts Try.prog 12 Try.f12 Rows.fnExactCountCoreSpec Rows.fnExactCountCoreRow = true := by
  unfold joinedFacts
  rw [head_may, head_lifts, head_make]
  kernel_rfl

theorem over : Rows.fnExactCountCoreRow.holds Try.pinned (OpenSpec.ofChange Rows.fnExactCountCoreSpec) :=
  OpenClaim.holds_of_wide 12 Try.f12 rfl rfl rfl rfl rfl rfl rfl ⟨rfl, rfl, rfl, rfl, rfl⟩ rfl rfl rfl rfl rfl (by kernel_rfl) Try.func12 closed
    (of_decide_eq_true (by kernel_rfl)) (by unfold Func.isWrapper; first | (rw [if_pos (by decide +kernel)]; kernel_rfl) | (rw [if_neg (by decide +kernel)]; exact ⟨rfl, rfl⟩))
    (fun os started H enc _ => lifted os started H enc)

/-- The given statement. -/
theorem proved : Rows.FnExactCountCoreSaid :=
  over
#print axioms proved
end Go.Proofs.Yteooogngdejdgaa.fnExactCountCore
