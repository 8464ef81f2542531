/-
  The plain words for values: cells, trees, texts that may be strings; no program in sight. Conditions: none.
-/
import Derived.Test.YthaakpbdijhgiaaGreatDoorQTokensPgC
set_option linter.unusedVariables false
set_option linter.unusedSimpArgs false
set_option maxRecDepth 100000
namespace Go.Proofs.YthaakpbdijhgiaaGreatDoor
open Go.RowKit

structure Cell where
  kind : Int
  num : Int
  text : ByteArray
  key : ByteArray
  n : Int
  deriving Inhabited, DecidableEq

def Cell.row (c : Cell) : List D := [.v (.int .i64 c.kind), .v (.int .i64 c.num), .v (.string c.text), .v (.string c.key), .v (.int .i64 c.n)]

abbrev dI (n : Int) : D := .v (.int .i64 n)
abbrev dB (b : Bool) : D := .v (.bool b)
abbrev dS (s : ByteArray) : D := .v (.string s)

abbrev noS : ByteArray := ⟨#[]⟩

/-! ### texts -/

def okByte (b : Int) : Bool := decide (32 ≤ b) && decide (b ≤ 126)

def okUpto (s : ByteArray) : Nat → Bool
  | 0 => true
  | k + 1 => okUpto s k && okByte (byteAt s k)

/-- A text that may be a string or a key. -/
def okText (s : ByteArray) : Bool := okUpto s s.size && decide (s.size ≤ 60)

theorem okUpto_false {s : ByteArray} {k : Nat} (h : okByte (byteAt s k) = false) : ∀ n, k < n → okUpto s n = false
  | 0, hn => by omega
  | n + 1, hn => by
    unfold okUpto
    by_cases e : k = n
    · subst e; simp [h]
    · simp [okUpto_false h n (by omega)]

/-! ### cells -/

theorem toNat_cc (a b : Nat) : ((a : Int) + (b : Int)).toNat = a + b := by omega
theorem toNat_c1 (a : Nat) : ((a : Int) + 1).toNat = a + 1 := by omega
theorem toNat_cm1 (a : Nat) : ((a : Int) - 1).toNat = a - 1 := by omega
theorem toNat_cm (a b : Nat) : ((a : Int) - (b : Int)).toNat = a - b := by omega

theorem take_step {α : Type} [Inhabited α] {l : List α} {k : Nat} (h : k < l.length) : l.take (k + 1) = l.take k ++ [l.getD k default] := by
  rw [List.take_add_one, List.getElem?_eq_getElem h]; simp [h]
theorem drop_step {α : Type} [Inhabited α] {l : List α} {k : Nat} (h : k < l.length) : l.drop k = l.getD k default :: l.drop (k + 1) := by
  rw [List.drop_eq_getElem_cons h]; simp [h]
theorem getD_mem' {α : Type} [Inhabited α] {l : List α} {k : Nat} (h : k < l.length) : l.getD k default ∈ l := by simp [h]

end Go.Proofs.YthaakpbdijhgiaaGreatDoor
