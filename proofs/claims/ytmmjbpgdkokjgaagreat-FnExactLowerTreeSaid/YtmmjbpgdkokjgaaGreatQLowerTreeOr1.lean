/-
  Texts of this claim in one. Conditions: none.
-/
import Derived.Test.YtmmjbpgdkokjgaaGreatQLowerTreePgC
section
set_option linter.unusedVariables false
set_option linter.unusedSimpArgs false
set_option maxRecDepth 100000
namespace Go.Proofs.YtmmjbpgdkokjgaaGreat
open Go.RowKit

structure Cell where
  kind : Int
  num : Int
  text : ByteArray
  key : ByteArray
  n : Int
  deriving Inhabited, DecidableEq

def Cell.row (c : Cell) : List D := [.v (.int .i64 c.kind), .v (.int .i64 c.num), .v (.string c.text), .v (.string c.key), .v (.int .i64 c.n)]

abbrev cellsD (cs : List Cell) : D := .sl 5 (cs.map Cell.row)

abbrev dI (n : Int) : D := .v (.int .i64 n)
abbrev dB (b : Bool) : D := .v (.bool b)
abbrev dS (s : ByteArray) : D := .v (.string s)

theorem map_row {α : Type} [Inhabited α] (f : α → List D) (xs : List α) (i : Int) (h : 0 ≤ i ∧ i < xs.length) : (xs.map f)[i.toNat]? = some (f (xs.getD i.toNat default)) := by
  have : i.toNat < xs.length := by omega
  simp [this]

theorem map_rowN {α : Type} [Inhabited α] (f : α → List D) (xs : List α) (i : Nat) (h : i < xs.length) : (xs.map f)[i]? = some (f (xs.getD i default)) := by
  simp [h]

abbrev noS : ByteArray := ⟨#[]⟩

/-! ### texts -/

def okByte (b : Int) : Bool := decide (32 ≤ b) && decide (b ≤ 126)

def okUpto (s : ByteArray) : Nat → Bool
  | 0 => true
  | k + 1 => okUpto s k && okByte (byteAt s k)

/-- A text that may be a string or a key. -/
def okText (s : ByteArray) : Bool := okUpto s s.size && decide (s.size ≤ 60)

theorem okUpto_false {s : ByteArray} {k : Nat} (h : okByte (byteAt s k) = false) : ∀ n, k < n → okUpto s n = false
  | 0, hn => by omega
  | n + 1, hn => by
    unfold okUpto
    by_cases e : k = n
    · subst e; simp [h]
    · simp [okUpto_false h n (by omega)]

/-! ### cells -/

def holdsK (k : Int) : Bool := decide (k = 5) || decide (k = 6)

def cellCode (c : Cell) : Int :=
  if !(decide (0 ≤ c.kind) && decide (c.kind ≤ 6)) then 6
  else if (!decide (c.num = 0) && !decide (c.kind = 3)) || (!decide (c.text = noS) && !decide (c.kind = 4)) || (!decide (c.n = 0) && !holdsK c.kind) then 1
  else if !(decide (-1000000000000000 ≤ c.num) && decide (c.num ≤ 1000000000000000)) || !(decide (0 ≤ c.n) && decide (c.n ≤ 200)) then 3
  else if !okText c.text || !okText c.key then 5
  else 0

theorem toNat_cc (a b : Nat) : ((a : Int) + (b : Int)).toNat = a + b := by omega
theorem toNat_c1 (a : Nat) : ((a : Int) + 1).toNat = a + 1 := by omega
theorem toNat_cm1 (a : Nat) : ((a : Int) - 1).toNat = a - 1 := by omega
theorem toNat_cm (a b : Nat) : ((a : Int) - (b : Int)).toNat = a - b := by omega

theorem take_step {α : Type} [Inhabited α] {l : List α} {k : Nat} (h : k < l.length) : l.take (k + 1) = l.take k ++ [l.getD k default] := by
  rw [List.take_add_one, List.getElem?_eq_getElem h]; simp [h]
theorem drop_step {α : Type} [Inhabited α] {l : List α} {k : Nat} (h : k < l.length) : l.drop k = l.getD k default :: l.drop (k + 1) := by
  rw [List.drop_eq_getElem_cons h]; simp [h]
theorem getD_mem' {α : Type} [Inhabited α] {l : List α} {k : Nat} (h : k < l.length) : l.getD k default ∈ l := by simp [h]

/-- Rows that are written one after the other over zeros. -/
def rowsK {α : Type} (f : α → List D) (z : List D) (l : List α) (k : Nat) : List (List D) := (l.take k).map f ++ List.replicate (l.length - k) z

theorem rowsK_zero {α : Type} (f : α → List D) (z : List D) (l : List α) : rowsK f z l 0 = List.replicate l.length z := by simp [rowsK]
theorem rowsK_all {α : Type} (f : α → List D) (z : List D) (l : List α) : rowsK f z l l.length = l.map f := by simp [rowsK]
theorem rowsK_length {α : Type} (f : α → List D) (z : List D) (l : List α) {k : Nat} (h : k ≤ l.length) : (rowsK f z l k).length = l.length := by simp [rowsK]; omega
theorem rowsK_at {α : Type} (f : α → List D) (z : List D) (l : List α) {k : Nat} (h : k < l.length) : (rowsK f z l k)[k]? = some z := by
  have hl : ((l.take k).map f).length = k := by simp; omega
  rw [rowsK, List.getElem?_append_right (by omega), hl, Nat.sub_self, List.getElem?_replicate, if_pos (by omega)]
theorem rowsK_set {α : Type} [Inhabited α] (f : α → List D) (z : List D) (l : List α) {k : Nat} (h : k < l.length) : (rowsK f z l k).set k (f (l.getD k default)) = rowsK f z l (k + 1) := by
  have hl : ((l.take k).map f).length = k := by simp; omega
  rw [rowsK, rowsK, List.set_append_right _ _ (by omega), hl, Nat.sub_self, take_step h, List.map_append, List.append_assoc]
  congr 1
  rw [show l.length - k = (l.length - (k + 1)) + 1 by omega, List.replicate_succ]
  rfl

end Go.Proofs.YtmmjbpgdkokjgaaGreat
end

section
set_option linter.unusedVariables false
set_option linter.unusedSimpArgs false
namespace Go.Proofs.YtmmjbpgdkokjgaaGreat
open Go.RowKit

def lessK (a b : ByteArray) : Bool := Op.bytesLess a.data.toList b.data.toList

def incr : List ByteArray → Prop
  | a :: b :: r => lessK a b = true ∧ incr (b :: r)
  | _ => True

theorem less_irrefl : ∀ l : List UInt8, Op.bytesLess l l = false
  | [] => rfl
  | a :: r => by
    have := less_irrefl r
    simp [Op.bytesLess, this]

theorem less_trans : ∀ a b c : List UInt8, Op.bytesLess a b = true → Op.bytesLess b c = true → Op.bytesLess a c = true
  | a, b, [], h1, h2 => by cases b <;> simp [Op.bytesLess] at h2
  | a, [], _ :: _, h1, h2 => by cases a <;> simp [Op.bytesLess] at h1
  | [], _ :: _, _ :: _, h1, h2 => rfl
  | a :: x, b :: y, c :: z, h1, h2 => by
    have ih := less_trans x y z
    simp only [Op.bytesLess, Bool.or_eq_true, Bool.and_eq_true, decide_eq_true_eq, beq_iff_eq, UInt8.lt_iff_toNat_lt] at h1 h2 ⊢
    rcases h1 with h1 | ⟨rfl, h1⟩
    · rcases h2 with h2 | ⟨rfl, h2⟩
      · left; omega
      · left; exact h1
    · rcases h2 with h2 | ⟨rfl, h2⟩
      · left; exact h2
      · right; exact ⟨rfl, ih h1 h2⟩

theorem less_tri : ∀ a b : List UInt8, Op.bytesLess a b = false → Op.bytesLess b a = false → a = b
  | [], [], _, _ => rfl
  | [], _ :: _, h, _ => by simp [Op.bytesLess] at h
  | _ :: _, [], _, h => by simp [Op.bytesLess] at h
  | a :: x, b :: y, h1, h2 => by
    simp only [Op.bytesLess, Bool.or_eq_false_iff, Bool.and_eq_false_iff, decide_eq_false_iff_not, UInt8.lt_iff_toNat_lt, beq_eq_false_iff_ne] at h1 h2
    have e : a = b := by
      apply UInt8.toNat_inj.1
      omega
    subst e
    have := less_tri x y (by simpa using h1.2) (by simpa using h2.2)
    rw [this]

theorem less_getD : ∀ {ks : List ByteArray}, incr ks → ∀ (p q : Nat), p < q → q < ks.length → lessK (ks.getD p default) (ks.getD q default) = true
  | [], _, p, q, h1, h2 => by simp at h2
  | [a], _, p, q, h1, h2 => by simp at h2; omega
  | a :: b :: r, h, 0, q + 1, h1, h2 => by
    cases q with
    | zero => exact h.1
    | succ q =>
      have := less_getD h.2 0 (q + 1) (by omega) (by simpa using h2)
      have h2' : lessK b ((b :: r).getD (q + 1) default) = true := by simpa using this
      show lessK a ((b :: r).getD (q + 1) default) = true
      exact less_trans _ _ _ h.1 h2'
  | a :: b :: r, h, p + 1, q + 1, h1, h2 => by
    have := less_getD h.2 p q (by omega) (by simpa using h2)
    simpa using this

/-- How many keys stand ahead of one. -/
def posK (key : ByteArray) : List ByteArray → Nat
  | [] => 0
  | a :: r => if lessK a key = true then posK key r + 1 else 0

/-- Whether a key is among others, in order. -/
def hasK (ks : List ByteArray) (key : ByteArray) : Bool := decide (posK key ks < ks.length) && decide (ks.getD (posK key ks) default = key)

theorem incr_cons {a : ByteArray} {r : List ByteArray} : incr (a :: r) ↔ (∀ b ∈ r, lessK a b = true) ∧ incr r := by
  constructor
  · intro h
    refine ⟨?_, by cases r with | nil => trivial | cons b r => exact h.2⟩
    intro b hb
    obtain ⟨j, hj, rfl⟩ := List.getElem_of_mem hb
    have := less_getD h 0 (j + 1) (by omega) (by simpa using hj)
    simpa [hj] using this
  · rintro ⟨h1, h2⟩
    cases r with
    | nil => trivial
    | cons b r => exact ⟨h1 b (List.mem_cons_self ..), h2⟩

def insK (key : ByteArray) (ks : List ByteArray) : List ByteArray := if hasK ks key = true then ks else ks.take (posK key ks) ++ key :: ks.drop (posK key ks)

def insX {α : Type} (key : ByteArray) (x : α) (ks : List ByteArray) (xs : List α) : List α := if hasK ks key = true then xs.set (posK key ks) x else xs.take (posK key ks) ++ x :: xs.drop (posK key ks)

theorem posK_le (key : ByteArray) : ∀ ks : List ByteArray, posK key ks ≤ ks.length
  | [] => Nat.le_refl _
  | a :: r => by
    have := posK_le key r
    rw [posK]
    split <;> simp <;> omega

theorem insK_length (key : ByteArray) (ks : List ByteArray) : (insK key ks).length ≤ ks.length + 1 := by
  have := posK_le key ks
  unfold insK
  split
  · omega
  · simp; omega

theorem insX_length {α : Type} (key : ByteArray) (x : α) (ks : List ByteArray) (xs : List α) (h : xs.length = ks.length) : (insX key x ks xs).length = (insK key ks).length := by
  have := posK_le key ks
  unfold insX insK
  split
  · simp [h]
  · simp [h]

/-- The first i of one list, the rest of another. -/
def mixL {α : Type} (ys xs : List α) (i : Nat) : List α := ys.take i ++ xs.drop i

theorem mixL_zero {α : Type} (ys xs : List α) : mixL ys xs 0 = xs := by simp [mixL]

theorem mixL_all {α : Type} (ys xs : List α) (h : ys.length = xs.length) : mixL ys xs xs.length = ys := by simp [mixL, ← h]

theorem mixL_length {α : Type} (ys xs : List α) (h : ys.length = xs.length) (i : Nat) (hi : i ≤ xs.length) : (mixL ys xs i).length = xs.length := by simp [mixL]; omega

theorem mixL_at {α : Type} [Inhabited α] (ys xs : List α) (h : ys.length = xs.length) {i : Nat} (hi : i < xs.length) : (mixL ys xs i)[i]? = some (xs.getD i default) := by
  have hl : (ys.take i).length = i := by simp; omega
  rw [mixL, List.getElem?_append_right (by omega), hl, Nat.sub_self, List.getElem?_drop, Nat.add_zero]
  simp [hi]

theorem mixL_set {α : Type} [Inhabited α] (ys xs : List α) (h : ys.length = xs.length) {i : Nat} (hi : i < xs.length) : (mixL ys xs i).set i (ys.getD i default) = mixL ys xs (i + 1) := by
  have hl : (ys.take i).length = i := by simp; omega
  rw [mixL, mixL, List.set_append_right _ _ (by omega), hl, Nat.sub_self, drop_step hi, take_step (by omega)]
  simp

end Go.Proofs.YtmmjbpgdkokjgaaGreat
end
