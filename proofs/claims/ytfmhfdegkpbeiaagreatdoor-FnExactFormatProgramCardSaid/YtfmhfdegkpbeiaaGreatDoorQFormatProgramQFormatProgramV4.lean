/-
  Texts of this claim in one. Conditions: none.
-/
import Derived.Test.YtfmhfdegkpbeiaaGreatDoorQFormatProgramQFormatProgramJn1
import Derived.Test.YtfmhfdegkpbeiaaGreatDoorQFormatProgramQFormatProgramEn1
import Derived.Test.YtfmhfdegkpbeiaaGreatDoorQFormatProgramQFormatProgramEnv
import Derived.Test.YtfmhfdegkpbeiaaGreatDoorQFormatProgramQFormatProgramVal
import Derived.Test.YtfmhfdegkpbeiaaGreatDoorQFormatProgramQFormatProgramPgD
import Derived.Test.YtfmhfdegkpbeiaaGreatDoorQFormatProgramQFormatProgramV3
section
set_option linter.unusedVariables false
set_option linter.unusedSimpArgs false
set_option maxRecDepth 100000
namespace Go.Proofs.YtfmhfdegkpbeiaaGreatDoor
open Go.RowKit

theorem quoted_size (s : ByteArray) : (quoted s).size = eN s s.size + 2 := by
  rw [← qN_all, ba_size, qN_size]
  rfl
theorem okText_size {s : ByteArray} (h : okText s = true) : s.size ≤ 60 := by
  unfold okText at h
  simp only [Bool.and_eq_true, decide_eq_true_eq] at h
  exact h.2
theorem quoted_small {s : ByteArray} (h : okText s = true) : (quoted s).size ≤ 122 := by
  have h1 := okText_size h
  have h2 := eN_ge s s.size (Nat.le_refl _)
  rw [quoted_size]
  omega
end Go.Proofs.YtfmhfdegkpbeiaaGreatDoor
end

section
set_option linter.unusedVariables false
set_option linter.unusedSimpArgs false
set_option maxRecDepth 100000
namespace Go.Proofs.YtfmhfdegkpbeiaaGreatDoor
open Go.RowKit

def Cell.fit (c : Cell) : Prop := c.text.size ≤ maxLen ∧ c.key.size ≤ maxLen

end Go.Proofs.YtfmhfdegkpbeiaaGreatDoor
end

section
set_option linter.unusedVariables false
set_option linter.unusedSimpArgs false
set_option maxRecDepth 100000
namespace Go.Proofs.YtfmhfdegkpbeiaaGreatDoor
open Go.RowKit

/-! ### sizes of lists, by what an element leaves -/

def szList {α : Type} (f : α → Int → Int) : List α → Int → Int
  | [], l => l
  | x :: r, l => if f x l < 0 then -1 else szList f r (f x l)

def szSl {α : Type} (f : α → Int → Int) (xs : List α) (l : Int) : Int := if l - xs.length < 0 then -1 else szList f xs (l - xs.length)

/-- An element never leaves more than there was, and -1 where there is not enough. -/
def SzOK {α : Type} (f : α → Int → Int) : Prop := ∀ x l, -1 ≤ l → -1 ≤ f x l ∧ f x l ≤ max l (-1)

/-- Each element has found what it needs. -/
theorem szList_each {α : Type} {f : α → Int → Int} (hf : SzOK f) : ∀ (xs : List α) (l : Int), -1 ≤ l → 0 ≤ szList f xs l → ∀ x ∈ xs, ∃ l', l' ≤ l ∧ -1 ≤ l' ∧ 0 ≤ f x l'
  | [], l, _, _, x, hx => by cases hx
  | c :: r, l, hl, h, x, hx => by
    unfold szList at h
    split at h
    · omega
    · rename_i hc
      have h1 := hf c l hl
      rcases List.mem_cons.1 hx with rfl | hx
      · exact ⟨l, Int.le_refl _, hl, by omega⟩
      · obtain ⟨l', h2, h3, h4⟩ := szList_each hf r (f c l) (by omega) h x hx
        refine ⟨l', ?_, h3, h4⟩
        rcases Int.le_total l (-1) with hle | hle
        · omega
        · omega

theorem szSl_each {α : Type} {f : α → Int → Int} (hf : SzOK f) (xs : List α) (l : Int) (h : 0 ≤ szSl f xs l) : (xs.length : Int) ≤ l ∧ ∀ x ∈ xs, ∃ l', l' ≤ l ∧ -1 ≤ l' ∧ 0 ≤ f x l' := by
  unfold szSl at h
  split at h
  · omega
  · rename_i hn
    refine ⟨by omega, fun x hx => ?_⟩
    obtain ⟨l', h1, h2⟩ := szList_each hf xs (l - xs.length) (by omega) h x hx
    exact ⟨l', by omega, h2⟩

/-! ### slices of slices of cells -/

end Go.Proofs.YtfmhfdegkpbeiaaGreatDoor
end

section
set_option linter.unusedVariables false
set_option linter.unusedSimpArgs false
set_option maxRecDepth 100000
namespace Go.Proofs.YtfmhfdegkpbeiaaGreatDoor
open Go.RowKit

mutual
def V.depth : V → Int
  | .mk _ _ _ _ kids => V.depths kids + 1
def V.depths : List V → Int
  | [] => 0
  | v :: r => max (V.depth v) (V.depths r)
end

mutual
def V.count : V → Nat
  | .mk _ _ _ _ kids => V.counts kids + 1
def V.counts : List V → Nat
  | [] => 0
  | v :: r => V.count v + V.counts r
end

def V.kind : V → Int | .mk k _ _ _ _ => k
def V.num : V → Int | .mk _ n _ _ _ => n
def V.text : V → ByteArray | .mk _ _ t _ _ => t
def V.kids : V → List V | .mk _ _ _ _ kids => kids

end Go.Proofs.YtfmhfdegkpbeiaaGreatDoor
end
