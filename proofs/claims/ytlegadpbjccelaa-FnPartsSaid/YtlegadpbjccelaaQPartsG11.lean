/-
  Arrays that are made of values; values told with their fault; all values in a value; keys as values. Conditions: none.
-/
import Derived.Test.YtlegadpbjccelaaQPartsG16
import Derived.Test.YtlegadpbjccelaaQPartsG6
set_option linter.unusedVariables false
set_option linter.unusedSimpArgs false
set_option maxRecDepth 100000
namespace Go.Proofs.Ytlegadpbjccelaa
open Go.RowKit

/-- The array of values. -/
def arrV (l : List V) : V := .mk 5 0 noS [] l

theorem arrV_good {l : List V} (h : ∀ v ∈ l, v.good) : (arrV l).good :=
  ⟨by decide, fun h => absurd rfl h, fun h => absurd rfl h, fun _ => .inl rfl, by decide, rfl, fun h => absurd h (by decide), fun _ => rfl, fun k hk => absurd hk (by simp), trivial, V.goods_of h⟩
theorem arrV_count (l : List V) : (arrV l).count = V.counts l + 1 := rfl

mutual
theorem V.cells_sizes : ∀ (v : V), v.good → ∀ (key : ByteArray), okText key = true → ∀ c ∈ v.cellsK key, c.text.size ≤ 1048576 ∧ c.key.size ≤ 1048576
  | .mk k n t ks kids, hg, key, hkey, c, hc => by
    obtain ⟨g1, g2, g3, g4, g5, g6, g7, g8, g9, g10, g11⟩ := hg
    simp only [V.cellsK] at hc
    rcases List.mem_cons.1 hc with rfl | hc
    · simp only [okText, Bool.and_eq_true, decide_eq_true_eq] at g6 hkey
      show t.size ≤ _ ∧ key.size ≤ _
      omega
    · exact V.cells_sizess kids ks g11 g9 c hc
theorem V.cells_sizess : ∀ (l : List V) (ks : List ByteArray), V.goods l → (∀ key ∈ ks, okText key = true) → ∀ c ∈ V.kidsC l ks, c.text.size ≤ 1048576 ∧ c.key.size ≤ 1048576
  | [], ks, _, _, c, hc => by simp [V.kidsC] at hc
  | v :: r, ks, hg, hk, c, hc => by
    simp only [V.kidsC] at hc
    rcases List.mem_append.1 hc with hc | hc
    · refine V.cells_sizes v hg.1 _ ?_ c hc
      cases ks with
      | nil => rfl
      | cons a r => exact hk a (List.mem_cons_self ..)
    · exact V.cells_sizess r ks.tail hg.2 (fun key hkey => hk key (List.mem_of_mem_tail hkey)) c hc
end

end Go.Proofs.Ytlegadpbjccelaa
