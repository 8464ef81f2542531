/-
  Texts of this claim in one. Conditions: none.
-/
import Derived.Test.YtlegadpbjccelaaQSortsPgC
section
set_option linter.unusedVariables false
set_option linter.unusedSimpArgs false
set_option maxRecDepth 100000
namespace Go.Proofs.Ytlegadpbjccelaa
open Go.RowKit

structure Cell where
  kind : Int
  num : Int
  text : ByteArray
  key : ByteArray
  n : Int
  deriving Inhabited, DecidableEq

def Cell.row (c : Cell) : List D := [.v (.int .i64 c.kind), .v (.int .i64 c.num), .v (.string c.text), .v (.string c.key), .v (.int .i64 c.n)]

abbrev cellsD (cs : List Cell) : D := .sl 5 (cs.map Cell.row)

abbrev dI (n : Int) : D := .v (.int .i64 n)
abbrev dB (b : Bool) : D := .v (.bool b)
abbrev dS (s : ByteArray) : D := .v (.string s)

theorem map_row {α : Type} [Inhabited α] (f : α → List D) (xs : List α) (i : Int) (h : 0 ≤ i ∧ i < xs.length) : (xs.map f)[i.toNat]? = some (f (xs.getD i.toNat default)) := by
  have : i.toNat < xs.length := by omega
  simp [this]

abbrev noS : ByteArray := ⟨#[]⟩

/-! ### texts -/

def okByte (b : Int) : Bool := decide (32 ≤ b) && decide (b ≤ 126)

def okUpto (s : ByteArray) : Nat → Bool
  | 0 => true
  | k + 1 => okUpto s k && okByte (byteAt s k)

/-- A text that may be a string or a key. -/
def okText (s : ByteArray) : Bool := okUpto s s.size && decide (s.size ≤ 60)

theorem okUpto_false {s : ByteArray} {k : Nat} (h : okByte (byteAt s k) = false) : ∀ n, k < n → okUpto s n = false
  | 0, hn => by omega
  | n + 1, hn => by
    unfold okUpto
    by_cases e : k = n
    · subst e; simp [h]
    · simp [okUpto_false h n (by omega)]

/-! ### cells -/

def holdsK (k : Int) : Bool := decide (k = 5) || decide (k = 6)

def cellCode (c : Cell) : Int :=
  if !(decide (0 ≤ c.kind) && decide (c.kind ≤ 6)) then 6
  else if (!decide (c.num = 0) && !decide (c.kind = 3)) || (!decide (c.text = noS) && !decide (c.kind = 4)) || (!decide (c.n = 0) && !holdsK c.kind) then 1
  else if !(decide (-1000000000000000 ≤ c.num) && decide (c.num ≤ 1000000000000000)) || !(decide (0 ≤ c.n) && decide (c.n ≤ 200)) then 3
  else if !okText c.text || !okText c.key then 5
  else 0

theorem toNat_cc (a b : Nat) : ((a : Int) + (b : Int)).toNat = a + b := by omega
theorem toNat_c1 (a : Nat) : ((a : Int) + 1).toNat = a + 1 := by omega
theorem toNat_cm1 (a : Nat) : ((a : Int) - 1).toNat = a - 1 := by omega
theorem toNat_cm (a b : Nat) : ((a : Int) - (b : Int)).toNat = a - b := by omega

theorem take_step {α : Type} [Inhabited α] {l : List α} {k : Nat} (h : k < l.length) : l.take (k + 1) = l.take k ++ [l.getD k default] := by
  rw [List.take_add_one, List.getElem?_eq_getElem h]; simp [h]
theorem drop_step {α : Type} [Inhabited α] {l : List α} {k : Nat} (h : k < l.length) : l.drop k = l.getD k default :: l.drop (k + 1) := by
  rw [List.drop_eq_getElem_cons h]; simp [h]
theorem getD_mem' {α : Type} [Inhabited α] {l : List α} {k : Nat} (h : k < l.length) : l.getD k default ∈ l := by simp [h]

end Go.Proofs.Ytlegadpbjccelaa
end

section
set_option linter.unusedVariables false
set_option linter.unusedSimpArgs false
namespace Go.Proofs.Ytlegadpbjccelaa
open Go.RowKit

def lessK (a b : ByteArray) : Bool := Op.bytesLess a.data.toList b.data.toList

def incr : List ByteArray → Prop
  | a :: b :: r => lessK a b = true ∧ incr (b :: r)
  | _ => True

theorem less_irrefl : ∀ l : List UInt8, Op.bytesLess l l = false
  | [] => rfl
  | a :: r => by
    have := less_irrefl r
    simp [Op.bytesLess, this]

theorem less_trans : ∀ a b c : List UInt8, Op.bytesLess a b = true → Op.bytesLess b c = true → Op.bytesLess a c = true
  | a, b, [], h1, h2 => by cases b <;> simp [Op.bytesLess] at h2
  | a, [], _ :: _, h1, h2 => by cases a <;> simp [Op.bytesLess] at h1
  | [], _ :: _, _ :: _, h1, h2 => rfl
  | a :: x, b :: y, c :: z, h1, h2 => by
    have ih := less_trans x y z
    simp only [Op.bytesLess, Bool.or_eq_true, Bool.and_eq_true, decide_eq_true_eq, beq_iff_eq, UInt8.lt_iff_toNat_lt] at h1 h2 ⊢
    rcases h1 with h1 | ⟨rfl, h1⟩
    · rcases h2 with h2 | ⟨rfl, h2⟩
      · left; omega
      · left; exact h1
    · rcases h2 with h2 | ⟨rfl, h2⟩
      · left; exact h2
      · right; exact ⟨rfl, ih h1 h2⟩

theorem less_tri : ∀ a b : List UInt8, Op.bytesLess a b = false → Op.bytesLess b a = false → a = b
  | [], [], _, _ => rfl
  | [], _ :: _, h, _ => by simp [Op.bytesLess] at h
  | _ :: _, [], _, h => by simp [Op.bytesLess] at h
  | a :: x, b :: y, h1, h2 => by
    simp only [Op.bytesLess, Bool.or_eq_false_iff, Bool.and_eq_false_iff, decide_eq_false_iff_not, UInt8.lt_iff_toNat_lt, beq_eq_false_iff_ne] at h1 h2
    have e : a = b := by
      apply UInt8.toNat_inj.1
      omega
    subst e
    have := less_tri x y (by simpa using h1.2) (by simpa using h2.2)
    rw [this]

/-- How many keys stand ahead of one. -/
def posK (key : ByteArray) : List ByteArray → Nat
  | [] => 0
  | a :: r => if lessK a key = true then posK key r + 1 else 0

theorem posK_of (key : ByteArray) : ∀ (ks : List ByteArray) (i : Nat), i ≤ ks.length → (∀ p, p < i → lessK (ks.getD p default) key = true) → (i < ks.length → lessK (ks.getD i default) key = false) → posK key ks = i
  | [], i, h, _, _ => by simp at h; subst h; rfl
  | a :: r, 0, _, _, h => by
    have := h (by simp)
    simp only [List.getD_cons_zero] at this
    rw [posK, if_neg (by rw [this]; simp)]
  | a :: r, i + 1, h1, h2, h3 => by
    have h0 := h2 0 (by omega)
    simp only [List.getD_cons_zero] at h0
    rw [posK, if_pos h0, posK_of key r i (by simpa using h1) (fun p hp => by simpa using h2 (p + 1) (by omega)) (fun hp => by simpa using h3 (by simpa using hp))]

/-- Whether a key is among others, in order. -/
def hasK (ks : List ByteArray) (key : ByteArray) : Bool := decide (posK key ks < ks.length) && decide (ks.getD (posK key ks) default = key)

def insK (key : ByteArray) (ks : List ByteArray) : List ByteArray := if hasK ks key = true then ks else ks.take (posK key ks) ++ key :: ks.drop (posK key ks)

def insX {α : Type} (key : ByteArray) (x : α) (ks : List ByteArray) (xs : List α) : List α := if hasK ks key = true then xs.set (posK key ks) x else xs.take (posK key ks) ++ x :: xs.drop (posK key ks)

theorem posK_le (key : ByteArray) : ∀ ks : List ByteArray, posK key ks ≤ ks.length
  | [] => Nat.le_refl _
  | a :: r => by
    have := posK_le key r
    rw [posK]
    split <;> simp <;> omega

theorem insK_length (key : ByteArray) (ks : List ByteArray) : (insK key ks).length ≤ ks.length + 1 := by
  have := posK_le key ks
  unfold insK
  split
  · omega
  · simp; omega

theorem insX_length {α : Type} (key : ByteArray) (x : α) (ks : List ByteArray) (xs : List α) (h : xs.length = ks.length) : (insX key x ks xs).length = (insK key ks).length := by
  have := posK_le key ks
  unfold insX insK
  split
  · simp [h]
  · simp [h]

theorem insX_mem {α : Type} (key : ByteArray) (x : α) (ks : List ByteArray) (xs : List α) : ∀ y ∈ insX key x ks xs, y = x ∨ y ∈ xs := by
  intro y hy
  unfold insX at hy
  split at hy
  · rcases List.mem_or_eq_of_mem_set hy with h | h
    · exact .inr h
    · exact .inl h
  · rcases List.mem_append.1 hy with h | h
    · exact .inr (List.mem_of_mem_take h)
    · rcases List.mem_cons.1 h with h | h
      · exact .inl h
      · exact .inr (List.mem_of_mem_drop h)

theorem ins_rows {α : Type} (f : α → List D) (xs : List α) (x : α) (j : Nat) :
    ([] ++ ((xs.map f).drop (Int.toNat 0)).take (Int.toNat (j : Int) - Int.toNat 0)) ++ [f x] ++ ((xs.map f).drop (Int.toNat (j : Int))).take (Int.toNat ((xs.map f).length : Int) - Int.toNat (j : Int)) = (xs.take j ++ x :: xs.drop j).map f := by
  simp only [Int.toNat_natCast, Int.toNat_zero, List.drop_zero, Nat.sub_zero, List.nil_append, List.map_append, List.map_cons, List.map_take, List.map_drop, List.append_assoc, List.singleton_append]
  rw [List.take_of_length_le (l := ((xs.map f).drop j)) (by simp)]

end Go.Proofs.Ytlegadpbjccelaa
end
