/-
  DropKey: a value without one of its keys, by the program and by the reference. Conditions: none.
-/
import Derived.Test.YtlegadpbjccelaaQPartsG17
set_option linter.unusedVariables false
set_option linter.unusedSimpArgs false
set_option maxRecDepth 100000
namespace Go.Proofs.Ytlegadpbjccelaa
open Go.RowKit

theorem posK_all {key : ByteArray} : ∀ {ks : List ByteArray}, (∀ a ∈ ks, lessK a key = true) → posK key ks = ks.length
  | [], _ => rfl
  | a :: r, h => by rw [posK, if_pos (h a (List.mem_cons_self ..)), posK_all fun b hb => h b (List.mem_cons_of_mem _ hb)]; rfl

theorem objK_incr {α : Type} [Inhabited α] {keys : List ByteArray} (h : incr keys) (xs : List α) (hl : keys.length = xs.length) : ∀ i, i ≤ keys.length → objK keys i = keys.take i ∧ objX keys xs i = xs.take i
  | 0, _ => by simp [objK, objX]
  | i + 1, hi => by
    obtain ⟨e1, e2⟩ := objK_incr h xs hl i (by omega)
    have hall : ∀ a ∈ keys.take i, lessK a (keys.getD i default) = true := fun a ha => by
      obtain ⟨j, hj, rfl⟩ := List.getElem_of_mem ha
      have hj2 : j < i := by simp at hj; omega
      have := less_getD h j i hj2 (by omega)
      have hj3 : j < keys.length := by omega
      simpa [hj3] using this
    have hp := posK_all hall
    have hh : hasK (keys.take i) (keys.getD i default) = false := by rw [hasK, hp, decide_eq_false (by omega), Bool.false_and]
    have hxl : (xs.take i).length = (keys.take i).length := by simp [hl]
    constructor
    · rw [objK, e1, insK, if_neg (by rw [hh]; simp), hp, List.take_length, List.drop_length, take_step (by omega)]
    · rw [objX, e1, e2, insX, if_neg (by rw [hh]; simp), hp, ← hxl, List.take_length, List.drop_length, take_step (l := xs) (by omega)]

end Go.Proofs.Ytlegadpbjccelaa
