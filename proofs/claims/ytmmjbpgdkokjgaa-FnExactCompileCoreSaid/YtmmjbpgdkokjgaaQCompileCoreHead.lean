/-
  The head line of this seat's translation, word by word; what the rows ask of it. Written by a program of ours (genhead.py). Conditions: none.
-/
import Derived.Test.YtmmjbpgdkokjgaaChecked
import Derived.Test.YtmmjbpgdkokjgaaQCompileCorePgC
namespace Go.Proofs.Ytmmjbpgdkokjgaa
def joinW : List (List Char) → List Char
  | [] => []
  | [w] => w
  | w :: v :: r => w ++ Char.ofNat 32 :: joinW (v :: r)

def noBlank (w : List Char) : Bool := w.all fun c => !(c == Char.ofNat 32)

theorem wordsSigns_word : ∀ (w : List Char), noBlank w = true → wordsSigns w = [w]
  | [], _ => rfl
  | c :: r, h => by
    simp only [noBlank, List.all_cons, Bool.and_eq_true, Bool.not_eq_true', beq_eq_false_iff_ne] at h
    have ih := wordsSigns_word r (by simpa [noBlank] using h.2)
    unfold wordsSigns
    split
    · rename_i heq; cases heq
    · rename_i heq; injection heq with h1 h2; exact absurd h1 h.1
    · rename_i c' r' _ heq
      injection heq with h1 h2
      subst h1; subst h2
      rw [ih]

theorem wordsSigns_cons : ∀ (w r : List Char), noBlank w = true → wordsSigns (w ++ Char.ofNat 32 :: r) = w :: wordsSigns r
  | [], r, _ => rfl
  | c :: w, r, h => by
    simp only [noBlank, List.all_cons, Bool.and_eq_true, Bool.not_eq_true', beq_eq_false_iff_ne] at h
    have ih := wordsSigns_cons w r (by simpa [noBlank] using h.2)
    rw [List.cons_append]
    conv => lhs; unfold wordsSigns
    split
    · rename_i heq; cases heq
    · rename_i heq; injection heq with h1 h2; exact absurd h1 h.1
    · rename_i c' r' _ heq
      injection heq with h1 h2
      subst h1; subst h2
      rw [ih]

theorem wordsSigns_join : ∀ (ws : List (List Char)), ws ≠ [] → ws.all noBlank = true → wordsSigns (joinW ws) = ws
  | [], h, _ => (h rfl).elim
  | [w], _, h => wordsSigns_word w (by simpa using h)
  | w :: v :: r, _, h => by
    simp only [List.all_cons, Bool.and_eq_true] at h
    rw [joinW, wordsSigns_cons w _ h.1, wordsSigns_join (v :: r) (by simp) (by simpa using h.2)]

def headW : List (List Char) := ([[104,97,114,110,101,115,115], [97,51,48,54,99,50,102,49,56,55,101,98,98,51,53,51,52,49,101,99,51,49,54,54,99,55,102,55,50,100,51,99,100,99,102,55,97,54,50,98,97,97,99,98,50,97,51,51,52,57,102,56,55,102,52,48,100,57,99,52,52,51,57,51], [99,117,116], [97,116], [108,111,111,112,46,101,120,97,109,112,108,101,47,103,48,48,49,54,54,47,108,97,119,115,46,70,110,69,120,97,99,116,67,111,109,112,105,108,101,67,111,114,101]] : List (List Nat)).map fun w => w.map Char.ofNat

theorem head_eq : Try.prog.initOrder = String.ofList (joinW headW) := by kernel_rfl
theorem head_ws : wordsSigns Try.prog.initOrder.toList = headW := by
  rw [head_eq, String.toList_ofList]
  exact wordsSigns_join headW (by unfold headW; simp) (by kernel_rfl)
theorem head_lays : Try.prog.laysLater = false := by kernel_rfl
theorem head_refl : Try.prog.bearsReflect = false := by kernel_rfl
theorem head_door : Try.prog.doorRows = [] := by kernel_rfl
theorem head_behind : behindMainWord headW = "cut".toList :: headW.drop 3 := by kernel_rfl
theorem head_strip : stripLifts liftWords ("cut".toList :: headW.drop 3) = ([], "cut".toList :: headW.drop 3) := by kernel_rfl
theorem head_fits : Try.prog.doorFits [] = true := by
  unfold Program.doorFits
  rw [head_door]
  kernel_rfl

def enterW (P : Program) : List (List Char) → Bool
  | c :: rest =>
    ((c == "gc".toList || c == "spec".toList) && (rest.isEmpty || rest.head? == some "stop".toList)) ||
    (c == "carried".toList && rest.take 2 == ["gc".toList, "cut".toList] && !P.laysLater && !P.bearsReflect) ||
    ((stripLifts liftWords (c :: rest)).2.head? == some "cut".toList &&
      ((stripLifts liftWords (c :: rest)).1.contains "finals" || !P.laysLater) && ((stripLifts liftWords (c :: rest)).1.contains "reflectrows" || !P.bearsReflect) &&
      ((stripLifts liftWords (c :: rest)).1.contains "reflectrows" || !(stripLifts liftWords (c :: rest)).1.contains "leanrows") &&
      P.doorFits (stripLifts liftWords (c :: rest)).1)
  | [] => false

theorem enterW_eq (P : Program) : P.mayEnter = enterW P (behindMainWord (wordsSigns P.initOrder.toList)) := by
  unfold Program.mayEnter enterW
  rfl

theorem enterW_ok (P : Program) (c : List Char) (rest : List (List Char)) (hs : stripLifts liftWords (c :: rest) = ([], c :: rest)) (hc : c = "cut".toList) (h1 : P.laysLater = false) (h2 : P.bearsReflect = false) (h3 : P.doorFits [] = true) : enterW P (c :: rest) = true := by
  subst hc
  simp only [enterW, hs, h1, h2, h3]
  simp

theorem head_may : Try.prog.mayEnter = true := by
  rw [enterW_eq, head_ws, head_behind]
  exact enterW_ok Try.prog _ _ head_strip rfl head_lays head_refl head_fits
theorem head_lifts : Try.prog.liftsFinal = false := by
  unfold Program.liftsFinal Program.headLifts
  rw [head_ws, head_behind, head_strip]
  kernel_rfl

def makeW (P : Program) : List (List Char) → Option Make
  | c :: rest => if c == "gc".toList || c == "spec".toList then some .whole else if c == "cut".toList || (c == "finals".toList && rest.head? == some "cut".toList) then some .cut else if c == "carried".toList then some .carried else if P.headLifts.isEmpty then none else some (.lifted P.headLifts)
  | [] => none

theorem makeW_eq (P : Program) : P.make = makeW P (behindMainWord (wordsSigns P.initOrder.toList)) := by
  unfold Program.make makeW
  rfl

theorem makeW_ok (P : Program) (rest : List (List Char)) : makeW P ("cut".toList :: rest) = some .cut := by
  simp [makeW]

theorem head_make : Try.prog.make = some .cut := by
  rw [makeW_eq, head_ws, head_behind]
  exact makeW_ok Try.prog _

end Go.Proofs.Ytmmjbpgdkokjgaa
