/-
  Texts in order, keys put in where they belong, lists that are made in order. Conditions: none.
-/
import Derived.Test.YtmmjbpgdkokjgaaQCompileCoreVal
set_option linter.unusedVariables false
set_option linter.unusedSimpArgs false
namespace Go.Proofs.Ytmmjbpgdkokjgaa
open Go.RowKit

def lessK (a b : ByteArray) : Bool := Op.bytesLess a.data.toList b.data.toList

def incr : List ByteArray → Prop
  | a :: b :: r => lessK a b = true ∧ incr (b :: r)
  | _ => True

def rowsG {α β : Type} (f : α → β) (z : β) (l : List α) (k : Nat) : List β := (l.take k).map f ++ List.replicate (l.length - k) z

theorem rowsG_zero {α β : Type} (f : α → β) (z : β) (l : List α) : rowsG f z l 0 = List.replicate l.length z := by simp [rowsG]

theorem rowsG_all {α β : Type} (f : α → β) (z : β) (l : List α) : rowsG f z l l.length = l.map f := by simp [rowsG]

theorem rowsG_length {α β : Type} (f : α → β) (z : β) (l : List α) {k : Nat} (h : k ≤ l.length) : (rowsG f z l k).length = l.length := by simp [rowsG]; omega

theorem rowsG_at {α β : Type} (f : α → β) (z : β) (l : List α) {k : Nat} (h : k < l.length) : (rowsG f z l k)[k]? = some z := by
  have hl : ((l.take k).map f).length = k := by simp; omega
  rw [rowsG, List.getElem?_append_right (by omega), hl, Nat.sub_self, List.getElem?_replicate, if_pos (by omega)]

theorem rowsG_set {α β : Type} [Inhabited α] (f : α → β) (z : β) (l : List α) {k : Nat} (h : k < l.length) : (rowsG f z l k).set k (f (l.getD k default)) = rowsG f z l (k + 1) := by
  have hl : ((l.take k).map f).length = k := by simp; omega
  rw [rowsG, rowsG, List.set_append_right _ _ (by omega), hl, Nat.sub_self, take_step h, List.map_append, List.append_assoc]
  congr 1
  rw [show l.length - k = (l.length - (k + 1)) + 1 by omega, List.replicate_succ]
  rfl

/-- The first i of one list, the rest of another. -/
def mixL {α : Type} (ys xs : List α) (i : Nat) : List α := ys.take i ++ xs.drop i

theorem mixL_zero {α : Type} (ys xs : List α) : mixL ys xs 0 = xs := by simp [mixL]

theorem mixL_all {α : Type} (ys xs : List α) (h : ys.length = xs.length) : mixL ys xs xs.length = ys := by simp [mixL, ← h]

theorem mixL_length {α : Type} (ys xs : List α) (h : ys.length = xs.length) (i : Nat) (hi : i ≤ xs.length) : (mixL ys xs i).length = xs.length := by simp [mixL]; omega

theorem mixL_at {α : Type} [Inhabited α] (ys xs : List α) (h : ys.length = xs.length) {i : Nat} (hi : i < xs.length) : (mixL ys xs i)[i]? = some (xs.getD i default) := by
  have hl : (ys.take i).length = i := by simp; omega
  rw [mixL, List.getElem?_append_right (by omega), hl, Nat.sub_self, List.getElem?_drop, Nat.add_zero]
  simp [hi]

theorem mixL_set {α : Type} [Inhabited α] (ys xs : List α) (h : ys.length = xs.length) {i : Nat} (hi : i < xs.length) : (mixL ys xs i).set i (ys.getD i default) = mixL ys xs (i + 1) := by
  have hl : (ys.take i).length = i := by simp; omega
  rw [mixL, mixL, List.set_append_right _ _ (by omega), hl, Nat.sub_self, drop_step hi, take_step (by omega)]
  simp

end Go.Proofs.Ytmmjbpgdkokjgaa
