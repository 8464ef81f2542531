/-
  Texts in order, keys put in where they belong, lists that are made in order. Conditions: none.
-/
import Derived.Test.YtlegadpbjccelaaQEachOfVal
set_option linter.unusedVariables false
set_option linter.unusedSimpArgs false
namespace Go.Proofs.Ytlegadpbjccelaa
open Go.RowKit

def lessK (a b : ByteArray) : Bool := Op.bytesLess a.data.toList b.data.toList

def incr : List ByteArray → Prop
  | a :: b :: r => lessK a b = true ∧ incr (b :: r)
  | _ => True

/-- How many keys stand ahead of one. -/
def posK (key : ByteArray) : List ByteArray → Nat
  | [] => 0
  | a :: r => if lessK a key = true then posK key r + 1 else 0

/-- Whether a key is among others, in order. -/
def hasK (ks : List ByteArray) (key : ByteArray) : Bool := decide (posK key ks < ks.length) && decide (ks.getD (posK key ks) default = key)

def insK (key : ByteArray) (ks : List ByteArray) : List ByteArray := if hasK ks key = true then ks else ks.take (posK key ks) ++ key :: ks.drop (posK key ks)

def insX {α : Type} (key : ByteArray) (x : α) (ks : List ByteArray) (xs : List α) : List α := if hasK ks key = true then xs.set (posK key ks) x else xs.take (posK key ks) ++ x :: xs.drop (posK key ks)

/-- The first i of one list, the rest of another. -/
def mixL {α : Type} (ys xs : List α) (i : Nat) : List α := ys.take i ++ xs.drop i

theorem mixL_zero {α : Type} (ys xs : List α) : mixL ys xs 0 = xs := by simp [mixL]

theorem mixL_all {α : Type} (ys xs : List α) (h : ys.length = xs.length) : mixL ys xs xs.length = ys := by simp [mixL, ← h]

theorem mixL_length {α : Type} (ys xs : List α) (h : ys.length = xs.length) (i : Nat) (hi : i ≤ xs.length) : (mixL ys xs i).length = xs.length := by simp [mixL]; omega

theorem mixL_at {α : Type} [Inhabited α] (ys xs : List α) (h : ys.length = xs.length) {i : Nat} (hi : i < xs.length) : (mixL ys xs i)[i]? = some (xs.getD i default) := by
  have hl : (ys.take i).length = i := by simp; omega
  rw [mixL, List.getElem?_append_right (by omega), hl, Nat.sub_self, List.getElem?_drop, Nat.add_zero]
  simp [hi]

theorem mixL_set {α : Type} [Inhabited α] (ys xs : List α) (h : ys.length = xs.length) {i : Nat} (hi : i < xs.length) : (mixL ys xs i).set i (ys.getD i default) = mixL ys xs (i + 1) := by
  have hl : (ys.take i).length = i := by simp; omega
  rw [mixL, mixL, List.set_append_right _ _ (by omega), hl, Nat.sub_self, drop_step hi, take_step (by omega)]
  simp

end Go.Proofs.Ytlegadpbjccelaa
