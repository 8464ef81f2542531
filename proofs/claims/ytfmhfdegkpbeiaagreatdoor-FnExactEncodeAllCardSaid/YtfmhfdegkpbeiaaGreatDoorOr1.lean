/-
  Texts in order, keys put in where they belong, lists that are made in order. Conditions: none.
-/
import Derived.Test.YtfmhfdegkpbeiaaGreatDoorVal
set_option linter.unusedVariables false
set_option linter.unusedSimpArgs false
namespace Go.Proofs.YtfmhfdegkpbeiaaGreatDoor
open Go.RowKit

def lessK (a b : ByteArray) : Bool := Op.bytesLess a.data.toList b.data.toList

def incr : List ByteArray → Prop
  | a :: b :: r => lessK a b = true ∧ incr (b :: r)
  | _ => True

theorem less_irrefl : ∀ l : List UInt8, Op.bytesLess l l = false
  | [] => rfl
  | a :: r => by
    have := less_irrefl r
    simp [Op.bytesLess, this]

theorem less_trans : ∀ a b c : List UInt8, Op.bytesLess a b = true → Op.bytesLess b c = true → Op.bytesLess a c = true
  | a, b, [], h1, h2 => by cases b <;> simp [Op.bytesLess] at h2
  | a, [], _ :: _, h1, h2 => by cases a <;> simp [Op.bytesLess] at h1
  | [], _ :: _, _ :: _, h1, h2 => rfl
  | a :: x, b :: y, c :: z, h1, h2 => by
    have ih := less_trans x y z
    simp only [Op.bytesLess, Bool.or_eq_true, Bool.and_eq_true, decide_eq_true_eq, beq_iff_eq, UInt8.lt_iff_toNat_lt] at h1 h2 ⊢
    rcases h1 with h1 | ⟨rfl, h1⟩
    · rcases h2 with h2 | ⟨rfl, h2⟩
      · left; omega
      · left; exact h1
    · rcases h2 with h2 | ⟨rfl, h2⟩
      · left; exact h2
      · right; exact ⟨rfl, ih h1 h2⟩

theorem less_tri : ∀ a b : List UInt8, Op.bytesLess a b = false → Op.bytesLess b a = false → a = b
  | [], [], _, _ => rfl
  | [], _ :: _, h, _ => by simp [Op.bytesLess] at h
  | _ :: _, [], _, h => by simp [Op.bytesLess] at h
  | a :: x, b :: y, h1, h2 => by
    simp only [Op.bytesLess, Bool.or_eq_false_iff, Bool.and_eq_false_iff, decide_eq_false_iff_not, UInt8.lt_iff_toNat_lt, beq_eq_false_iff_ne] at h1 h2
    have e : a = b := by
      apply UInt8.toNat_inj.1
      omega
    subst e
    have := less_tri x y (by simpa using h1.2) (by simpa using h2.2)
    rw [this]

theorem less_getD : ∀ {ks : List ByteArray}, incr ks → ∀ (p q : Nat), p < q → q < ks.length → lessK (ks.getD p default) (ks.getD q default) = true
  | [], _, p, q, h1, h2 => by simp at h2
  | [a], _, p, q, h1, h2 => by simp at h2; omega
  | a :: b :: r, h, 0, q + 1, h1, h2 => by
    cases q with
    | zero => exact h.1
    | succ q =>
      have := less_getD h.2 0 (q + 1) (by omega) (by simpa using h2)
      have h2' : lessK b ((b :: r).getD (q + 1) default) = true := by simpa using this
      show lessK a ((b :: r).getD (q + 1) default) = true
      exact less_trans _ _ _ h.1 h2'
  | a :: b :: r, h, p + 1, q + 1, h1, h2 => by
    have := less_getD h.2 p q (by omega) (by simpa using h2)
    simpa using this

/-- How many keys stand ahead of one. -/
def posK (key : ByteArray) : List ByteArray → Nat
  | [] => 0
  | a :: r => if lessK a key = true then posK key r + 1 else 0

theorem posK_of (key : ByteArray) : ∀ (ks : List ByteArray) (i : Nat), i ≤ ks.length → (∀ p, p < i → lessK (ks.getD p default) key = true) → (i < ks.length → lessK (ks.getD i default) key = false) → posK key ks = i
  | [], i, h, _, _ => by simp at h; subst h; rfl
  | a :: r, 0, _, _, h => by
    have := h (by simp)
    simp only [List.getD_cons_zero] at this
    rw [posK, if_neg (by rw [this]; simp)]
  | a :: r, i + 1, h1, h2, h3 => by
    have h0 := h2 0 (by omega)
    simp only [List.getD_cons_zero] at h0
    rw [posK, if_pos h0, posK_of key r i (by simpa using h1) (fun p hp => by simpa using h2 (p + 1) (by omega)) (fun hp => by simpa using h3 (by simpa using hp))]

/-- Whether a key is among others, in order. -/
def hasK (ks : List ByteArray) (key : ByteArray) : Bool := decide (posK key ks < ks.length) && decide (ks.getD (posK key ks) default = key)

theorem hasK_lt {ks : List ByteArray} {key : ByteArray} (h : hasK ks key = true) : posK key ks < ks.length ∧ ks.getD (posK key ks) default = key := by
  simpa [hasK] using h

theorem hasK_at {ks : List ByteArray} {key : ByteArray} (hin : incr ks) {i : Nat} (hi : i < ks.length) (he : ks.getD i default = key) : posK key ks = i ∧ hasK ks key = true := by
  have hp : posK key ks = i := posK_of key ks i (by omega) (fun p hp => by rw [← he]; exact less_getD hin p i hp hi) fun _ => by rw [he]; exact less_irrefl _
  exact ⟨hp, by rw [hasK, hp, decide_eq_true hi, decide_eq_true he]; rfl⟩

theorem hasK_none {ks : List ByteArray} {key : ByteArray} (h : ∀ p, p < ks.length → ks.getD p default ≠ key) : hasK ks key = false := by
  cases hh : hasK ks key with
  | false => rfl
  | true => exact absurd (hasK_lt hh).2 (h _ (hasK_lt hh).1)

theorem incr_cons {a : ByteArray} {r : List ByteArray} : incr (a :: r) ↔ (∀ b ∈ r, lessK a b = true) ∧ incr r := by
  constructor
  · intro h
    refine ⟨?_, by cases r with | nil => trivial | cons b r => exact h.2⟩
    intro b hb
    obtain ⟨j, hj, rfl⟩ := List.getElem_of_mem hb
    have := less_getD h 0 (j + 1) (by omega) (by simpa using hj)
    simpa [hj] using this
  · rintro ⟨h1, h2⟩
    cases r with
    | nil => trivial
    | cons b r => exact ⟨h1 b (List.mem_cons_self ..), h2⟩

theorem incr_filter (f : ByteArray → Bool) : ∀ {l : List ByteArray}, incr l → incr (l.filter f)
  | [], _ => trivial
  | a :: r, h => by
    obtain ⟨h1, h2⟩ := incr_cons.1 h
    have ih := incr_filter f h2
    simp only [List.filter_cons]
    split
    · exact incr_cons.2 ⟨fun b hb => h1 b (List.mem_filter.1 hb).1, ih⟩
    · exact ih

def insK (key : ByteArray) (ks : List ByteArray) : List ByteArray := if hasK ks key = true then ks else ks.take (posK key ks) ++ key :: ks.drop (posK key ks)

def insX {α : Type} (key : ByteArray) (x : α) (ks : List ByteArray) (xs : List α) : List α := if hasK ks key = true then xs.set (posK key ks) x else xs.take (posK key ks) ++ x :: xs.drop (posK key ks)

theorem posK_le (key : ByteArray) : ∀ ks : List ByteArray, posK key ks ≤ ks.length
  | [] => Nat.le_refl _
  | a :: r => by
    have := posK_le key r
    rw [posK]
    split <;> simp <;> omega

theorem insK_length (key : ByteArray) (ks : List ByteArray) : (insK key ks).length ≤ ks.length + 1 := by
  have := posK_le key ks
  unfold insK
  split
  · omega
  · simp; omega

theorem insX_length {α : Type} (key : ByteArray) (x : α) (ks : List ByteArray) (xs : List α) (h : xs.length = ks.length) : (insX key x ks xs).length = (insK key ks).length := by
  have := posK_le key ks
  unfold insX insK
  split
  · simp [h]
  · simp [h]

theorem insX_mem {α : Type} (key : ByteArray) (x : α) (ks : List ByteArray) (xs : List α) : ∀ y ∈ insX key x ks xs, y = x ∨ y ∈ xs := by
  intro y hy
  unfold insX at hy
  split at hy
  · rcases List.mem_or_eq_of_mem_set hy with h | h
    · exact .inr h
    · exact .inl h
  · rcases List.mem_append.1 hy with h | h
    · exact .inr (List.mem_of_mem_take h)
    · rcases List.mem_cons.1 h with h | h
      · exact .inl h
      · exact .inr (List.mem_of_mem_drop h)

theorem ins_rows {α : Type} (f : α → List D) (xs : List α) (x : α) (j : Nat) :
    ([] ++ ((xs.map f).drop (Int.toNat 0)).take (Int.toNat (j : Int) - Int.toNat 0)) ++ [f x] ++ ((xs.map f).drop (Int.toNat (j : Int))).take (Int.toNat ((xs.map f).length : Int) - Int.toNat (j : Int)) = (xs.take j ++ x :: xs.drop j).map f := by
  simp only [Int.toNat_natCast, Int.toNat_zero, List.drop_zero, Nat.sub_zero, List.nil_append, List.map_append, List.map_cons, List.map_take, List.map_drop, List.append_assoc, List.singleton_append]
  rw [List.take_of_length_le (l := ((xs.map f).drop j)) (by simp)]

def rowsG {α β : Type} (f : α → β) (z : β) (l : List α) (k : Nat) : List β := (l.take k).map f ++ List.replicate (l.length - k) z

theorem rowsG_zero {α β : Type} (f : α → β) (z : β) (l : List α) : rowsG f z l 0 = List.replicate l.length z := by simp [rowsG]

theorem rowsG_all {α β : Type} (f : α → β) (z : β) (l : List α) : rowsG f z l l.length = l.map f := by simp [rowsG]

theorem rowsG_length {α β : Type} (f : α → β) (z : β) (l : List α) {k : Nat} (h : k ≤ l.length) : (rowsG f z l k).length = l.length := by simp [rowsG]; omega

theorem rowsG_at {α β : Type} (f : α → β) (z : β) (l : List α) {k : Nat} (h : k < l.length) : (rowsG f z l k)[k]? = some z := by
  have hl : ((l.take k).map f).length = k := by simp; omega
  rw [rowsG, List.getElem?_append_right (by omega), hl, Nat.sub_self, List.getElem?_replicate, if_pos (by omega)]

theorem rowsG_set {α β : Type} [Inhabited α] (f : α → β) (z : β) (l : List α) {k : Nat} (h : k < l.length) : (rowsG f z l k).set k (f (l.getD k default)) = rowsG f z l (k + 1) := by
  have hl : ((l.take k).map f).length = k := by simp; omega
  rw [rowsG, rowsG, List.set_append_right _ _ (by omega), hl, Nat.sub_self, take_step h, List.map_append, List.append_assoc]
  congr 1
  rw [show l.length - k = (l.length - (k + 1)) + 1 by omega, List.replicate_succ]
  rfl

/-- The first i of one list, the rest of another. -/
def mixL {α : Type} (ys xs : List α) (i : Nat) : List α := ys.take i ++ xs.drop i

theorem mixL_zero {α : Type} (ys xs : List α) : mixL ys xs 0 = xs := by simp [mixL]

theorem mixL_all {α : Type} (ys xs : List α) (h : ys.length = xs.length) : mixL ys xs xs.length = ys := by simp [mixL, ← h]

theorem mixL_length {α : Type} (ys xs : List α) (h : ys.length = xs.length) (i : Nat) (hi : i ≤ xs.length) : (mixL ys xs i).length = xs.length := by simp [mixL]; omega

theorem mixL_at {α : Type} [Inhabited α] (ys xs : List α) (h : ys.length = xs.length) {i : Nat} (hi : i < xs.length) : (mixL ys xs i)[i]? = some (xs.getD i default) := by
  have hl : (ys.take i).length = i := by simp; omega
  rw [mixL, List.getElem?_append_right (by omega), hl, Nat.sub_self, List.getElem?_drop, Nat.add_zero]
  simp [hi]

theorem mixL_set {α : Type} [Inhabited α] (ys xs : List α) (h : ys.length = xs.length) {i : Nat} (hi : i < xs.length) : (mixL ys xs i).set i (ys.getD i default) = mixL ys xs (i + 1) := by
  have hl : (ys.take i).length = i := by simp; omega
  rw [mixL, mixL, List.set_append_right _ _ (by omega), hl, Nat.sub_self, drop_step hi, take_step (by omega)]
  simp

end Go.Proofs.YtfmhfdegkpbeiaaGreatDoor
