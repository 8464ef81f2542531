/-
  Texts of this claim in one. Conditions: none.
-/
import Derived.Test.YtojifjbbjnpgbaaGreatChecked
import Derived.Test.YtojifjbbjnpgbaaGreatQDeadCorePgC
section
namespace Go.Proofs.YtojifjbbjnpgbaaGreat
def joinW : List (List Char) → List Char
  | [] => []
  | [w] => w
  | w :: v :: r => w ++ Char.ofNat 32 :: joinW (v :: r)

def noBlank (w : List Char) : Bool := w.all fun c => !(c == Char.ofNat 32)

theorem wordsSigns_word : ∀ (w : List Char), noBlank w = true → wordsSigns w = [w]
  | [], _ => rfl
  | c :: r, h => by
    simp only [noBlank, List.all_cons, Bool.and_eq_true, Bool.not_eq_true', beq_eq_false_iff_ne] at h
    have ih := wordsSigns_word r (by simpa [noBlank] using h.2)
    unfold wordsSigns
    split
    · rename_i heq; cases heq
    · rename_i heq; injection heq with h1 h2; exact absurd h1 h.1
    · rename_i c' r' _ heq
      injection heq with h1 h2
      subst h1; subst h2
      rw [ih]

theorem wordsSigns_cons : ∀ (w r : List Char), noBlank w = true → wordsSigns (w ++ Char.ofNat 32 :: r) = w :: wordsSigns r
  | [], r, _ => rfl
  | c :: w, r, h => by
    simp only [noBlank, List.all_cons, Bool.and_eq_true, Bool.not_eq_true', beq_eq_false_iff_ne] at h
    have ih := wordsSigns_cons w r (by simpa [noBlank] using h.2)
    rw [List.cons_append]
    conv => lhs; unfold wordsSigns
    split
    · rename_i heq; cases heq
    · rename_i heq; injection heq with h1 h2; exact absurd h1 h.1
    · rename_i c' r' _ heq
      injection heq with h1 h2
      subst h1; subst h2
      rw [ih]

theorem wordsSigns_join : ∀ (ws : List (List Char)), ws ≠ [] → ws.all noBlank = true → wordsSigns (joinW ws) = ws
  | [], h, _ => (h rfl).elim
  | [w], _, h => wordsSigns_word w (by simpa using h)
  | w :: v :: r, _, h => by
    simp only [List.all_cons, Bool.and_eq_true] at h
    rw [joinW, wordsSigns_cons w _ h.1, wordsSigns_join (v :: r) (by simp) (by simpa using h.2)]

def headW : List (List Char) := ([[104,97,114,110,101,115,115], [57,98,52,57,97,57,101,97,55,49,57,52,51,56,51,97,54,51,55,97,100,57,57,56,99,101,100,54,102,97,102,55,51,49,52,49,98,56,53,100,50,97,49,52,99,102,50,48,99,52,53,57,52,52,49,52,53,53,54,102,99,54,53,55], [99,117,116], [97,116], [108,111,111,112,46,101,120,97,109,112,108,101,47,103,48,48,49,54,54,47,108,97,119,115,46,70,110,69,120,97,99,116,68,101,97,100,67,111,114,101], [108,111,111,112,46,101,120,97,109,112,108,101,47,103,48,48,49,54,54,47,108,97,119,115,46,70,110,69,120,97,99,116,76,111,119,101,114,84,114,101,101], [108,111,111,112,46,101,120,97,109,112,108,101,47,103,48,48,49,54,54,47,108,97,119,115,46,70,110,69,120,97,99,116,84,114,121,67,111,114,101]] : List (List Nat)).map fun w => w.map Char.ofNat

theorem head_eq : Tryz.prog.initOrder = String.ofList (joinW headW) := by kernel_rfl
theorem head_ws : wordsSigns Tryz.prog.initOrder.toList = headW := by
  rw [head_eq, String.toList_ofList]
  exact wordsSigns_join headW (by unfold headW; simp) (by kernel_rfl)
theorem head_lays : Tryz.prog.laysLater = false := by kernel_rfl
theorem head_refl : Tryz.prog.bearsReflect = false := by kernel_rfl
theorem head_door : Tryz.prog.doorRows = [] := by kernel_rfl
theorem head_behind : behindMainWord headW = "cut".toList :: headW.drop 3 := by kernel_rfl
theorem head_strip : stripLifts liftWords ("cut".toList :: headW.drop 3) = ([], "cut".toList :: headW.drop 3) := by kernel_rfl
theorem head_fits : Tryz.prog.doorFits [] = true := by
  unfold Program.doorFits
  rw [head_door]
  kernel_rfl

def enterW (P : Program) : List (List Char) → Bool
  | c :: rest =>
    ((c == "gc".toList || c == "spec".toList) && (rest.isEmpty || rest.head? == some "stop".toList)) ||
    (c == "carried".toList && rest.take 2 == ["gc".toList, "cut".toList] && !P.laysLater && !P.bearsReflect) ||
    ((stripLifts liftWords (c :: rest)).2.head? == some "cut".toList &&
      ((stripLifts liftWords (c :: rest)).1.contains "finals" || !P.laysLater) && ((stripLifts liftWords (c :: rest)).1.contains "reflectrows" || !P.bearsReflect) &&
      ((stripLifts liftWords (c :: rest)).1.contains "reflectrows" || !(stripLifts liftWords (c :: rest)).1.contains "leanrows") &&
      P.doorFits (stripLifts liftWords (c :: rest)).1)
  | [] => false

theorem enterW_eq (P : Program) : P.mayEnter = enterW P (behindMainWord (wordsSigns P.initOrder.toList)) := by
  unfold Program.mayEnter enterW
  rfl

theorem enterW_ok (P : Program) (c : List Char) (rest : List (List Char)) (hs : stripLifts liftWords (c :: rest) = ([], c :: rest)) (hc : c = "cut".toList) (h1 : P.laysLater = false) (h2 : P.bearsReflect = false) (h3 : P.doorFits [] = true) : enterW P (c :: rest) = true := by
  subst hc
  simp only [enterW, hs, h1, h2, h3]
  simp

theorem head_may : Tryz.prog.mayEnter = true := by
  rw [enterW_eq, head_ws, head_behind]
  exact enterW_ok Tryz.prog _ _ head_strip rfl head_lays head_refl head_fits
theorem head_lifts : Tryz.prog.liftsFinal = false := by
  unfold Program.liftsFinal Program.headLifts
  rw [head_ws, head_behind, head_strip]
  kernel_rfl

def makeW (P : Program) : List (List Char) → Option Make
  | c :: rest => if c == "gc".toList || c == "spec".toList then some .whole else if c == "cut".toList || (c == "finals".toList && rest.head? == some "cut".toList) then some .cut else if c == "carried".toList then some .carried else if P.headLifts.isEmpty then none else some (.lifted P.headLifts)
  | [] => none

theorem makeW_eq (P : Program) : P.make = makeW P (behindMainWord (wordsSigns P.initOrder.toList)) := by
  unfold Program.make makeW
  rfl

theorem makeW_ok (P : Program) (rest : List (List Char)) : makeW P ("cut".toList :: rest) = some .cut := by
  simp [makeW]

theorem head_make : Tryz.prog.make = some .cut := by
  rw [makeW_eq, head_ws, head_behind]
  exact makeW_ok Tryz.prog _

end Go.Proofs.YtojifjbbjnpgbaaGreat
end

section
set_option linter.unusedVariables false
set_option linter.unusedSimpArgs false
set_option maxRecDepth 100000
namespace Go.Proofs.YtojifjbbjnpgbaaGreat
open Go.RowKit

structure Cell where
  kind : Int
  num : Int
  text : ByteArray
  key : ByteArray
  n : Int
  deriving Inhabited, DecidableEq

def Cell.row (c : Cell) : List D := [.v (.int .i64 c.kind), .v (.int .i64 c.num), .v (.string c.text), .v (.string c.key), .v (.int .i64 c.n)]

abbrev cellsD (cs : List Cell) : D := .sl 5 (cs.map Cell.row)

abbrev dI (n : Int) : D := .v (.int .i64 n)
abbrev dB (b : Bool) : D := .v (.bool b)
abbrev dS (s : ByteArray) : D := .v (.string s)

theorem map_row {α : Type} [Inhabited α] (f : α → List D) (xs : List α) (i : Int) (h : 0 ≤ i ∧ i < xs.length) : (xs.map f)[i.toNat]? = some (f (xs.getD i.toNat default)) := by
  have : i.toNat < xs.length := by omega
  simp [this]

theorem map_rowN {α : Type} [Inhabited α] (f : α → List D) (xs : List α) (i : Nat) (h : i < xs.length) : (xs.map f)[i]? = some (f (xs.getD i default)) := by
  simp [h]

abbrev noS : ByteArray := ⟨#[]⟩

/-! ### texts -/

def okByte (b : Int) : Bool := decide (32 ≤ b) && decide (b ≤ 126)

def okUpto (s : ByteArray) : Nat → Bool
  | 0 => true
  | k + 1 => okUpto s k && okByte (byteAt s k)

/-- A text that may be a string or a key. -/
def okText (s : ByteArray) : Bool := okUpto s s.size && decide (s.size ≤ 60)

theorem okUpto_false {s : ByteArray} {k : Nat} (h : okByte (byteAt s k) = false) : ∀ n, k < n → okUpto s n = false
  | 0, hn => by omega
  | n + 1, hn => by
    unfold okUpto
    by_cases e : k = n
    · subst e; simp [h]
    · simp [okUpto_false h n (by omega)]

/-! ### cells -/

def holdsK (k : Int) : Bool := decide (k = 5) || decide (k = 6)

def cellCode (c : Cell) : Int :=
  if !(decide (0 ≤ c.kind) && decide (c.kind ≤ 6)) then 6
  else if (!decide (c.num = 0) && !decide (c.kind = 3)) || (!decide (c.text = noS) && !decide (c.kind = 4)) || (!decide (c.n = 0) && !holdsK c.kind) then 1
  else if !(decide (-1000000000000000 ≤ c.num) && decide (c.num ≤ 1000000000000000)) || !(decide (0 ≤ c.n) && decide (c.n ≤ 200)) then 3
  else if !okText c.text || !okText c.key then 5
  else 0

theorem toNat_cc (a b : Nat) : ((a : Int) + (b : Int)).toNat = a + b := by omega
theorem toNat_c1 (a : Nat) : ((a : Int) + 1).toNat = a + 1 := by omega
theorem toNat_cm1 (a : Nat) : ((a : Int) - 1).toNat = a - 1 := by omega
theorem toNat_cm (a b : Nat) : ((a : Int) - (b : Int)).toNat = a - b := by omega

theorem take_step {α : Type} [Inhabited α] {l : List α} {k : Nat} (h : k < l.length) : l.take (k + 1) = l.take k ++ [l.getD k default] := by
  rw [List.take_add_one, List.getElem?_eq_getElem h]; simp [h]
theorem drop_step {α : Type} [Inhabited α] {l : List α} {k : Nat} (h : k < l.length) : l.drop k = l.getD k default :: l.drop (k + 1) := by
  rw [List.drop_eq_getElem_cons h]; simp [h]
theorem getD_mem' {α : Type} [Inhabited α] {l : List α} {k : Nat} (h : k < l.length) : l.getD k default ∈ l := by simp [h]

/-- Rows that are written one after the other over zeros. -/
def rowsK {α : Type} (f : α → List D) (z : List D) (l : List α) (k : Nat) : List (List D) := (l.take k).map f ++ List.replicate (l.length - k) z

theorem rowsK_zero {α : Type} (f : α → List D) (z : List D) (l : List α) : rowsK f z l 0 = List.replicate l.length z := by simp [rowsK]
theorem rowsK_all {α : Type} (f : α → List D) (z : List D) (l : List α) : rowsK f z l l.length = l.map f := by simp [rowsK]
theorem rowsK_length {α : Type} (f : α → List D) (z : List D) (l : List α) {k : Nat} (h : k ≤ l.length) : (rowsK f z l k).length = l.length := by simp [rowsK]; omega
theorem rowsK_at {α : Type} (f : α → List D) (z : List D) (l : List α) {k : Nat} (h : k < l.length) : (rowsK f z l k)[k]? = some z := by
  have hl : ((l.take k).map f).length = k := by simp; omega
  rw [rowsK, List.getElem?_append_right (by omega), hl, Nat.sub_self, List.getElem?_replicate, if_pos (by omega)]
theorem rowsK_set {α : Type} [Inhabited α] (f : α → List D) (z : List D) (l : List α) {k : Nat} (h : k < l.length) : (rowsK f z l k).set k (f (l.getD k default)) = rowsK f z l (k + 1) := by
  have hl : ((l.take k).map f).length = k := by simp; omega
  rw [rowsK, rowsK, List.set_append_right _ _ (by omega), hl, Nat.sub_self, take_step h, List.map_append, List.append_assoc]
  congr 1
  rw [show l.length - k = (l.length - (k + 1)) + 1 by omega, List.replicate_succ]
  rfl

end Go.Proofs.YtojifjbbjnpgbaaGreat
end

section
set_option linter.unusedVariables false
set_option linter.unusedSimpArgs false
namespace Go.Proofs.YtojifjbbjnpgbaaGreat
open Go.RowKit

def rowsG {α β : Type} (f : α → β) (z : β) (l : List α) (k : Nat) : List β := (l.take k).map f ++ List.replicate (l.length - k) z

theorem rowsG_zero {α β : Type} (f : α → β) (z : β) (l : List α) : rowsG f z l 0 = List.replicate l.length z := by simp [rowsG]

theorem rowsG_all {α β : Type} (f : α → β) (z : β) (l : List α) : rowsG f z l l.length = l.map f := by simp [rowsG]

theorem rowsG_length {α β : Type} (f : α → β) (z : β) (l : List α) {k : Nat} (h : k ≤ l.length) : (rowsG f z l k).length = l.length := by simp [rowsG]; omega

theorem rowsG_at {α β : Type} (f : α → β) (z : β) (l : List α) {k : Nat} (h : k < l.length) : (rowsG f z l k)[k]? = some z := by
  have hl : ((l.take k).map f).length = k := by simp; omega
  rw [rowsG, List.getElem?_append_right (by omega), hl, Nat.sub_self, List.getElem?_replicate, if_pos (by omega)]

theorem rowsG_set {α β : Type} [Inhabited α] (f : α → β) (z : β) (l : List α) {k : Nat} (h : k < l.length) : (rowsG f z l k).set k (f (l.getD k default)) = rowsG f z l (k + 1) := by
  have hl : ((l.take k).map f).length = k := by simp; omega
  rw [rowsG, rowsG, List.set_append_right _ _ (by omega), hl, Nat.sub_self, take_step h, List.map_append, List.append_assoc]
  congr 1
  rw [show l.length - k = (l.length - (k + 1)) + 1 by omega, List.replicate_succ]
  rfl

/-- The first i of one list, the rest of another. -/
def mixL {α : Type} (ys xs : List α) (i : Nat) : List α := ys.take i ++ xs.drop i

theorem mixL_zero {α : Type} (ys xs : List α) : mixL ys xs 0 = xs := by simp [mixL]

theorem mixL_all {α : Type} (ys xs : List α) (h : ys.length = xs.length) : mixL ys xs xs.length = ys := by simp [mixL, ← h]

theorem mixL_length {α : Type} (ys xs : List α) (h : ys.length = xs.length) (i : Nat) (hi : i ≤ xs.length) : (mixL ys xs i).length = xs.length := by simp [mixL]; omega

theorem mixL_at {α : Type} [Inhabited α] (ys xs : List α) (h : ys.length = xs.length) {i : Nat} (hi : i < xs.length) : (mixL ys xs i)[i]? = some (xs.getD i default) := by
  have hl : (ys.take i).length = i := by simp; omega
  rw [mixL, List.getElem?_append_right (by omega), hl, Nat.sub_self, List.getElem?_drop, Nat.add_zero]
  simp [hi]

theorem mixL_set {α : Type} [Inhabited α] (ys xs : List α) (h : ys.length = xs.length) {i : Nat} (hi : i < xs.length) : (mixL ys xs i).set i (ys.getD i default) = mixL ys xs (i + 1) := by
  have hl : (ys.take i).length = i := by simp; omega
  rw [mixL, mixL, List.set_append_right _ _ (by omega), hl, Nat.sub_self, drop_step hi, take_step (by omega)]
  simp

end Go.Proofs.YtojifjbbjnpgbaaGreat
end
