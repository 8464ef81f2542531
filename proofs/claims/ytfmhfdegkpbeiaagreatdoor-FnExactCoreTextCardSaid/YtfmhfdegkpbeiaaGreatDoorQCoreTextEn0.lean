/-
  How long a quoted text is. Conditions: none.
-/
import Derived.Test.YtfmhfdegkpbeiaaGreatDoorQCoreTextJn1
import Derived.Test.YtfmhfdegkpbeiaaGreatDoorQCoreTextEn1
set_option linter.unusedVariables false
set_option linter.unusedSimpArgs false
set_option maxRecDepth 100000
namespace Go.Proofs.YtfmhfdegkpbeiaaGreatDoor
open Go.RowKit

theorem quoted_size (s : ByteArray) : (quoted s).size = eN s s.size + 2 := by
  rw [← qN_all, ba_size, qN_size]
  rfl
theorem okText_size {s : ByteArray} (h : okText s = true) : s.size ≤ 60 := by
  unfold okText at h
  simp only [Bool.and_eq_true, decide_eq_true_eq] at h
  exact h.2
theorem quoted_small {s : ByteArray} (h : okText s = true) : (quoted s).size ≤ 122 := by
  have h1 := okText_size h
  have h2 := eN_ge s s.size (Nat.le_refl _)
  rw [quoted_size]
  omega
theorem noS_ok : okText noS = true := by decide

theorem ba_assoc (a b c : ByteArray) : (a ++ b) ++ c = a ++ (b ++ c) := ba_eq (by simp [ba_app])
theorem ba_nil (a : ByteArray) : (⟨#[]⟩ : ByteArray) ++ a = a := ba_eq (by simp [ba_app])

end Go.Proofs.YtfmhfdegkpbeiaaGreatDoor
