/-
  The nodes of a tree that nothing is about, by the reference; both agree on the first one. Conditions: texts of at most 2^20 bytes.
-/
import Derived.Test.YtlegadpbjccelaaTrB
set_option linter.unusedVariables false
set_option linter.unusedSimpArgs false
set_option maxRecDepth 100000
namespace Go.Proofs.Ytlegadpbjccelaa
open Go.RowKit

theorem flat_bound {nm : Nat → List Int} {F : Nat → Nat → List Nat} {ks : List Nat} (hF : ∀ i j, (F i j).length ≤ (full nm j).length) {i : Nat} (h : i < ks.length) :
    (flatI F (ks.take i) 0).length + (full nm (ks.getD i default)).length ≤ (ks.flatMap (full nm)).length := by
  have h1 := flatI_len (f := F) (g := full nm) (l := ks.take i) (i := 0) fun i j _ => hF i j
  have h2 : (ks.flatMap (full nm)).length = ((ks.take (i + 1)).flatMap (full nm)).length + ((ks.drop (i + 1)).flatMap (full nm)).length := by
    rw [← List.length_append, ← List.flatMap_append, List.take_append_drop]
  rw [take_step h, List.flatMap_append, List.length_append, List.flatMap_singleton] at h2
  omega

theorem flatI_all {F : Nat → Nat → List Nat} {nm : Nat → List Int} (hF : ∀ i j, (F i j).length ≤ (full nm j).length) (ks : List Nat) : (flatI F ks 0).length ≤ (ks.flatMap (full nm)).length :=
  flatI_len (f := F) (g := full nm) fun i j _ => hF i j


end Go.Proofs.Ytlegadpbjccelaa
