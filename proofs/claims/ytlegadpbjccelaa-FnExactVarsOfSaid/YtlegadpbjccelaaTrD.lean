/-
  Whether the names of a tree are known, by the program and by the reference. Conditions: texts of at most 2^20 bytes.
-/
import Derived.Test.YtlegadpbjccelaaTrC
set_option linter.unusedVariables false
set_option linter.unusedSimpArgs false
set_option maxRecDepth 100000
namespace Go.Proofs.Ytlegadpbjccelaa
open Go.RowKit

theorem treeM_ok {ns : List Nd} (h : treeM ns = 0) : (1 ≤ ns.length ∧ ns.length ≤ 200) ∧ codeFrom (nodeCode ns) ns.length 0 = 0 ∧ full (nmT ns) (ns.length - 1) = List.range ns.length ∧ nestM (nmT ns) (ns.length - 1) ≤ 30 := by
  unfold treeM at h
  split at h
  · cases h
  rename_i h1
  have h1 := Classical.not_not.1 h1
  split at h
  · rename_i h2; exact absurd h h2
  rename_i h2
  split at h
  · cases h
  rename_i h3
  split at h
  · cases h
  rename_i h4
  refine ⟨h1, Classical.not_not.1 h2, ?_, by omega⟩
  have := begM_zero.1 (Classical.not_not.1 h3)
  rw [this, show ns.length - 1 + 1 = ns.length by omega]

noncomputable def scopeL (ns : List Nd) : List Nat := badM ns ns.length (ns.length - 1) []
noncomputable def scopeC (ns : List Nd) : Int := if treeM ns = 0 then (if 0 ≤ headI (scopeL ns) then 4 else 0) else treeM ns
noncomputable def scopeV (ns : List Nd) : Int := if treeM ns = 0 ∧ 0 ≤ headI (scopeL ns) then headI (scopeL ns) else 0




end Go.Proofs.Ytlegadpbjccelaa
