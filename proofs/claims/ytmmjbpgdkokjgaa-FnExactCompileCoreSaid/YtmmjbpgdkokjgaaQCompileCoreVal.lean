/-
  The plain words for values: cells, trees, texts that may be strings; no program in sight. Conditions: none.
-/
import Derived.Test.YtmmjbpgdkokjgaaQCompileCorePgC
set_option linter.unusedVariables false
set_option linter.unusedSimpArgs false
set_option maxRecDepth 100000
namespace Go.Proofs.Ytmmjbpgdkokjgaa
open Go.RowKit

structure Cell where
  kind : Int
  num : Int
  text : ByteArray
  key : ByteArray
  n : Int
  deriving Inhabited, DecidableEq

def Cell.row (c : Cell) : List D := [.v (.int .i64 c.kind), .v (.int .i64 c.num), .v (.string c.text), .v (.string c.key), .v (.int .i64 c.n)]

abbrev cellsD (cs : List Cell) : D := .sl 5 (cs.map Cell.row)

abbrev dI (n : Int) : D := .v (.int .i64 n)
abbrev dB (b : Bool) : D := .v (.bool b)
abbrev dS (s : ByteArray) : D := .v (.string s)

theorem map_row {α : Type} [Inhabited α] (f : α → List D) (xs : List α) (i : Int) (h : 0 ≤ i ∧ i < xs.length) : (xs.map f)[i.toNat]? = some (f (xs.getD i.toNat default)) := by
  have : i.toNat < xs.length := by omega
  simp [this]

theorem map_rowN {α : Type} [Inhabited α] (f : α → List D) (xs : List α) (i : Nat) (h : i < xs.length) : (xs.map f)[i]? = some (f (xs.getD i default)) := by
  simp [h]

abbrev noS : ByteArray := ⟨#[]⟩

/-! ### texts -/

def okByte (b : Int) : Bool := decide (32 ≤ b) && decide (b ≤ 126)

def okUpto (s : ByteArray) : Nat → Bool
  | 0 => true
  | k + 1 => okUpto s k && okByte (byteAt s k)

/-- A text that may be a string or a key. -/
def okText (s : ByteArray) : Bool := okUpto s s.size && decide (s.size ≤ 60)

theorem okUpto_false {s : ByteArray} {k : Nat} (h : okByte (byteAt s k) = false) : ∀ n, k < n → okUpto s n = false
  | 0, hn => by omega
  | n + 1, hn => by
    unfold okUpto
    by_cases e : k = n
    · subst e; simp [h]
    · simp [okUpto_false h n (by omega)]

/-! ### cells -/

def holdsK (k : Int) : Bool := decide (k = 5) || decide (k = 6)

def cellCode (c : Cell) : Int :=
  if !(decide (0 ≤ c.kind) && decide (c.kind ≤ 6)) then 6
  else if (!decide (c.num = 0) && !decide (c.kind = 3)) || (!decide (c.text = noS) && !decide (c.kind = 4)) || (!decide (c.n = 0) && !holdsK c.kind) then 1
  else if !(decide (-1000000000000000 ≤ c.num) && decide (c.num ≤ 1000000000000000)) || !(decide (0 ≤ c.n) && decide (c.n ≤ 200)) then 3
  else if !okText c.text || !okText c.key then 5
  else 0

theorem toNat_cc (a b : Nat) : ((a : Int) + (b : Int)).toNat = a + b := by omega
theorem toNat_c1 (a : Nat) : ((a : Int) + 1).toNat = a + 1 := by omega
theorem toNat_cm1 (a : Nat) : ((a : Int) - 1).toNat = a - 1 := by omega
theorem toNat_cm (a b : Nat) : ((a : Int) - (b : Int)).toNat = a - b := by omega

theorem take_step {α : Type} [Inhabited α] {l : List α} {k : Nat} (h : k < l.length) : l.take (k + 1) = l.take k ++ [l.getD k default] := by
  rw [List.take_add_one, List.getElem?_eq_getElem h]; simp [h]
theorem drop_step {α : Type} [Inhabited α] {l : List α} {k : Nat} (h : k < l.length) : l.drop k = l.getD k default :: l.drop (k + 1) := by
  rw [List.drop_eq_getElem_cons h]; simp [h]
theorem getD_mem' {α : Type} [Inhabited α] {l : List α} {k : Nat} (h : k < l.length) : l.getD k default ∈ l := by simp [h]

/-- Rows that are written one after the other over zeros. -/
def rowsK {α : Type} (f : α → List D) (z : List D) (l : List α) (k : Nat) : List (List D) := (l.take k).map f ++ List.replicate (l.length - k) z

theorem rowsK_zero {α : Type} (f : α → List D) (z : List D) (l : List α) : rowsK f z l 0 = List.replicate l.length z := by simp [rowsK]
theorem rowsK_all {α : Type} (f : α → List D) (z : List D) (l : List α) : rowsK f z l l.length = l.map f := by simp [rowsK]
theorem rowsK_length {α : Type} (f : α → List D) (z : List D) (l : List α) {k : Nat} (h : k ≤ l.length) : (rowsK f z l k).length = l.length := by simp [rowsK]; omega
theorem rowsK_at {α : Type} (f : α → List D) (z : List D) (l : List α) {k : Nat} (h : k < l.length) : (rowsK f z l k)[k]? = some z := by
  have hl : ((l.take k).map f).length = k := by simp; omega
  rw [rowsK, List.getElem?_append_right (by omega), hl, Nat.sub_self, List.getElem?_replicate, if_pos (by omega)]
theorem rowsK_set {α : Type} [Inhabited α] (f : α → List D) (z : List D) (l : List α) {k : Nat} (h : k < l.length) : (rowsK f z l k).set k (f (l.getD k default)) = rowsK f z l (k + 1) := by
  have hl : ((l.take k).map f).length = k := by simp; omega
  rw [rowsK, rowsK, List.set_append_right _ _ (by omega), hl, Nat.sub_self, take_step h, List.map_append, List.append_assoc]
  congr 1
  rw [show l.length - k = (l.length - (k + 1)) + 1 by omega, List.replicate_succ]
  rfl

end Go.Proofs.Ytmmjbpgdkokjgaa
