/-
  What the laws' own functions on slices of cells' slices do: their size, their copy, their comparison. Conditions: none.
-/
import Derived.Test.YtmmjbpgdkokjgaaQCompileCoreC1
set_option linter.unusedVariables false
set_option linter.unusedSimpArgs false
set_option maxRecDepth 100000
namespace Go.Proofs.Ytmmjbpgdkokjgaa
open Go.RowKit

/-! ### sizes of lists, by what an element leaves -/

def szList {α : Type} (f : α → Int → Int) : List α → Int → Int
  | [], l => l
  | x :: r, l => if f x l < 0 then -1 else szList f r (f x l)

def szSl {α : Type} (f : α → Int → Int) (xs : List α) (l : Int) : Int := if l - xs.length < 0 then -1 else szList f xs (l - xs.length)

/-- An element never leaves more than there was, and -1 where there is not enough. -/
def SzOK {α : Type} (f : α → Int → Int) : Prop := ∀ x l, -1 ≤ l → -1 ≤ f x l ∧ f x l ≤ max l (-1)

theorem szList_le {α : Type} {f : α → Int → Int} (hf : SzOK f) : ∀ (xs : List α) (l : Int), -1 ≤ l → -1 ≤ szList f xs l ∧ szList f xs l ≤ max l (-1)
  | [], l, h => by simp [szList]; omega
  | c :: r, l, h => by
    unfold szList
    have h1 := hf c l h
    split
    · omega
    · have := szList_le hf r (f c l) h1.1
      omega

theorem szSl_le {α : Type} {f : α → Int → Int} (hf : SzOK f) (xs : List α) (l : Int) (h : -1 ≤ l) : -1 ≤ szSl f xs l ∧ szSl f xs l ≤ max l (-1) := by
  unfold szSl
  split
  · omega
  · have := szList_le hf xs (l - xs.length) (by omega)
    omega

/-- Each element has found what it needs. -/
theorem szList_each {α : Type} {f : α → Int → Int} (hf : SzOK f) : ∀ (xs : List α) (l : Int), -1 ≤ l → 0 ≤ szList f xs l → ∀ x ∈ xs, ∃ l', l' ≤ l ∧ -1 ≤ l' ∧ 0 ≤ f x l'
  | [], l, _, _, x, hx => by cases hx
  | c :: r, l, hl, h, x, hx => by
    unfold szList at h
    split at h
    · omega
    · rename_i hc
      have h1 := hf c l hl
      rcases List.mem_cons.1 hx with rfl | hx
      · exact ⟨l, Int.le_refl _, hl, by omega⟩
      · obtain ⟨l', h2, h3, h4⟩ := szList_each hf r (f c l) (by omega) h x hx
        refine ⟨l', ?_, h3, h4⟩
        rcases Int.le_total l (-1) with hle | hle
        · omega
        · omega

theorem szSl_each {α : Type} {f : α → Int → Int} (hf : SzOK f) (xs : List α) (l : Int) (h : 0 ≤ szSl f xs l) : (xs.length : Int) ≤ l ∧ ∀ x ∈ xs, ∃ l', l' ≤ l ∧ -1 ≤ l' ∧ 0 ≤ f x l' := by
  unfold szSl at h
  split at h
  · omega
  · rename_i hn
    refine ⟨by omega, fun x hx => ?_⟩
    obtain ⟨l', h1, h2⟩ := szList_each hf xs (l - xs.length) (by omega) h x hx
    exact ⟨l', by omega, h2⟩

theorem szC_ok : SzOK szC := fun c l h => szC_le c l h
theorem szL_list : ∀ (cs : List Cell) (l : Int), szL cs l = szList szC cs l
  | [], l => rfl
  | c :: r, l => by unfold szL szList; rw [szL_list r]
theorem szS_sl (cs : List Cell) (l : Int) : szS cs l = szSl szC cs l := by unfold szS szSl; rw [szL_list]
theorem szS_ok2 : SzOK szS := fun cs l h => by rw [szS_sl]; exact szSl_le szC_ok cs l h

/-! ### slices of slices of cells -/

def fitS (cs : List Cell) : Prop := (∀ c ∈ cs, c.fit) ∧ cs.length ≤ maxLen

end Go.Proofs.Ytmmjbpgdkokjgaa
