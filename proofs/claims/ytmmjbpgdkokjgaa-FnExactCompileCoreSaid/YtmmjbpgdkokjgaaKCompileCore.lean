/-
  What is proved: the Go function laws.FnExactCompileCore returns true. For all arguments the program's CompileCore gives what the reference's gives, and neither its result nor its arguments share memory with what they should not.
  Conditions: none beyond the row's own (every start that the form admits).
-/
import Derived.Test.YtmmjbpgdkokjgaaRows
import Derived.Test.YtmmjbpgdkokjgaaQCompileCoreEnv
import Derived.Test.YtmmjbpgdkokjgaaQCompileCorePgC
import Derived.Test.YtmmjbpgdkokjgaaQCompileCoreHead
import Derived.Test.YtmmjbpgdkokjgaaQCompileCoreZCompileCore
set_option linter.unusedVariables false
namespace Go.Proofs.Ytmmjbpgdkokjgaa.fnExactCompileCore
open Go.ChangeShapes Go.WideShapes Go.ChangeAt Go.RowKit

theorem own : ownKnob Try.prog.godebug = none := by kernel_rfl
theorem laid : laidOutB Try.prog = true := by kernel_rfl

set_option maxRecDepth 100000 in
theorem lifted (os : Os) (started : os.Started) (H : Type) (enc : TypeId × Value → H) :
    ReturnsInHanded {} Try.checked os 3 .any (Rows.fnExactCompileCoreSpec.pre6 enc Try.prog Try.f3 Rows.fnExactCompileCoreRow.domain false) (Rows.fnExactCompileCoreSpec.post enc Try.prog Try.f3 false true false false) := by
  refine returnsInHanded_of_change (C := Try.checked) own started (by kernel_rfl) Try.func3
    (ChangeSpec.witness6 (enc := enc) (C := Try.checked) false ⟨#[], #[.slice none 0 0], []⟩ 8 (by kernel_rfl) (by kernel_rfl) (by kernel_rfl) (by kernel_rfl)) ?_
  intro W base args ds gs before hval hW hcnd _
  have hval0 : ∀ (j : Nat) (t : TypeId) (v : Value), Try.f3.params[j]? = some t → args[j]? = some v → Value.okWide Try.prog W .any base t v := hval
  refine law_body (P := Try.prog) (n := 9) (tb := 4) laid (by kernel_rfl) (by kernel_rfl) (by kernel_rfl) Try.underlying4 rfl (fun ds h => ?_) (fun j t v ht hv => Value.okWide_any_base (hval0 j t v ht hv)) hW fun xs hxs => ?_
  · match ds, h with
    | [_], _ => rfl
  · rw [Try.params3] at hxs
    exact lawCompileCore xs hxs

set_option maxRecDepth 100000 in
theorem closed : joinedFacts Try.prog 3 Try.f3 Rows.fnExactCompileCoreSpec Rows.fnExactCompileCoreRow = true := by
  unfold joinedFacts
  rw [head_may, head_lifts, head_make]
  kernel_rfl

theorem over : Rows.fnExactCompileCoreRow.holds Try.pinned (OpenSpec.ofChange Rows.fnExactCompileCoreSpec) :=
  OpenClaim.holds_of_wide 3 Try.f3 rfl rfl rfl rfl rfl rfl rfl ⟨rfl, rfl, rfl, rfl, rfl⟩ rfl rfl rfl rfl rfl (by kernel_rfl) Try.func3 closed
    (of_decide_eq_true (by kernel_rfl)) (by unfold Func.isWrapper; first | (rw [if_pos (by decide +kernel)]; kernel_rfl) | (rw [if_neg (by decide +kernel)]; exact ⟨rfl, rfl⟩))
    (fun os started H enc _ => lifted os started H enc)

/-- The given statement. -/
theorem proved : Rows.FnExactCompileCoreSaid :=
  over
#print axioms proved
end Go.Proofs.Ytmmjbpgdkokjgaa.fnExactCompileCore
