/-
  Texts of this claim in one. Conditions: none.
-/
import Derived.Test.YtlegadpbjccelaaQPartsG1
import Derived.Test.YtlegadpbjccelaaQPartsEnv
import Derived.Test.YtlegadpbjccelaaQPartsVal
import Derived.Test.YtlegadpbjccelaaQPartsPgD
section
set_option linter.unusedVariables false
set_option linter.unusedSimpArgs false
set_option maxRecDepth 100000
namespace Go.Proofs.Ytlegadpbjccelaa
open Go.RowKit

/-- Cells that may be read: no text in them outgrows the law's bound. -/
def fitsC (cs : List Cell) : Prop := (∀ c ∈ cs, c.text.size ≤ 1048576 ∧ c.key.size ≤ 1048576) ∧ cs.length ≤ 1048576

end Go.Proofs.Ytlegadpbjccelaa
end

section
set_option linter.unusedVariables false
set_option linter.unusedSimpArgs false
set_option maxRecDepth 100000
namespace Go.Proofs.Ytlegadpbjccelaa
open Go.RowKit

/-! ### sizes of lists, by what an element leaves -/

/-! ### slices of slices of cells -/

abbrev cellsR (cs : List Cell) : List D := [cellsD cs]
abbrev cellssD (xs : List (List Cell)) : D := .sl 1 (xs.map cellsR)

end Go.Proofs.Ytlegadpbjccelaa
end

section
set_option linter.unusedVariables false
set_option linter.unusedSimpArgs false
set_option maxRecDepth 100000
namespace Go.Proofs.Ytlegadpbjccelaa
open Go.RowKit

abbrev intRow (n : Int) : List D := [dI n]

/-- The nodes that the one at a place names (those ahead of it), by what each node names. -/
def kidsOf (nm : Nat → List Int) (k : Nat) : List Nat := ((nm k).map Int.toNat).filter (· < k)

theorem kidsOf_lt {nm : Nat → List Int} {k j : Nat} (h : j ∈ kidsOf nm k) : j < k := by
  simp only [kidsOf, List.mem_filter, decide_eq_true_eq] at h
  exact h.2

/-- The nodes of the tree of one, in their order. -/
def full (nm : Nat → List Int) (k : Nat) : List Nat := (kidsOf nm k).attach.flatMap (fun j => full nm j.1) ++ [k]
termination_by k
decreasing_by exact kidsOf_lt j.2

theorem full_eq (nm : Nat → List Int) (k : Nat) : full nm k = (kidsOf nm k).flatMap (full nm) ++ [k] := by
  rw [full]
  congr 1
  rw [List.flatMap_def, List.flatMap_def]
  exact congrArg List.flatten (List.attach_map_val (f := full nm))

theorem full_ne (nm : Nat → List Int) (k : Nat) : full nm k ≠ [] := by rw [full_eq]; simp

/-! ### numbers that go on by one -/

def cg : List Nat → Prop
  | a :: b :: r => b = a + 1 ∧ cg (b :: r)
  | _ => True

theorem cg_left : ∀ {l1 l2 : List Nat}, cg (l1 ++ l2) → cg l1
  | [], _, _ => trivial
  | [a], _, _ => trivial
  | a :: b :: r, l2, h => ⟨h.1, cg_left (l1 := b :: r) h.2⟩

theorem cg_right : ∀ {l1 l2 : List Nat}, cg (l1 ++ l2) → cg l2
  | [], _, h => h
  | [a], [], _ => trivial
  | [a], b :: r, h => h.2
  | a :: b :: r, l2, h => cg_right (l1 := b :: r) h.2

theorem cg_join : ∀ {l1 : List Nat} {a : Nat} {l2 : List Nat}, cg (l1 ++ [a]) → cg ((a + 1) :: l2) → cg ((l1 ++ [a]) ++ ((a + 1) :: l2))
  | [], a, l2, _, h => ⟨rfl, h⟩
  | [x], a, l2, h1, h => ⟨h1.1, rfl, h⟩
  | x :: y :: r, a, l2, h1, h => ⟨h1.1, cg_join (l1 := y :: r) h1.2 h⟩

open Classical in
/-- Where the tree of one begins; -1: its nodes do not stand in order. -/
noncomputable def begM (nm : Nat → List Int) (k : Nat) : Int := if cg (full nm k) then (((full nm k).headD 0 : Nat) : Int) else -1

theorem begM_neg {nm : Nat → List Int} {k : Nat} (h : ¬ cg (full nm k)) : begM nm k = -1 := by rw [begM, if_neg h]
theorem begM_pos {nm : Nat → List Int} {k b : Nat} {r : List Nat} (h : cg (full nm k)) (hb : full nm k = b :: r) : begM nm k = b := by rw [begM, if_pos h, hb]; rfl

/-- Backward over the nodes that one names: what is left, what has been seen. -/
def Seen (nm : Nat → List Int) (k : Nat) (us : List Nat) (b : Nat) : Prop := ∃ r, full nm k = us.flatMap (full nm) ++ (b :: r) ∧ cg (b :: r)

theorem Seen.start (nm : Nat → List Int) (k : Nat) : Seen nm k (kidsOf nm k) k := ⟨[], full_eq nm k, trivial⟩

theorem full_last (nm : Nat → List Int) (k : Nat) : ∃ l, full nm k = l ++ [k] := ⟨_, full_eq nm k⟩

theorem Seen.below {nm : Nat → List Int} {k own b : Nat} {us : List Nat} (h : Seen nm k (us ++ [own]) b) (hn : begM nm own < 0) : begM nm k = -1 := by
  obtain ⟨r, h1, h2⟩ := h
  refine begM_neg fun hc => ?_
  rw [h1, List.flatMap_append, List.flatMap_singleton, List.append_assoc] at hc
  have := cg_left (cg_right hc)
  rw [begM, if_pos this] at hn
  omega

theorem Seen.next {nm : Nat → List Int} {k own b : Nat} {us : List Nat} (h : Seen nm k (us ++ [own]) b) (hb : own + 1 = b) (hn : 0 ≤ begM nm own) : ∃ c : Nat, begM nm own = c ∧ Seen nm k us c := by
  obtain ⟨r, h1, h2⟩ := h
  by_cases hc : cg (full nm own)
  · cases hf : full nm own with
    | nil => exact absurd hf (full_ne _ _)
    | cons c r' =>
      refine ⟨c, begM_pos hc hf, r' ++ (b :: r), ?_, ?_⟩
      · rw [h1, List.flatMap_append, List.flatMap_singleton, hf, List.append_assoc]; rfl
      · obtain ⟨l, hl⟩ := full_last nm own
        subst hb
        have := cg_join (hl ▸ hc) h2
        rw [← hl, hf] at this
        exact this
  · rw [begM_neg hc] at hn; omega

/-! ### the order with a bound -/

/-! ### how deep -/

end Go.Proofs.Ytlegadpbjccelaa
end
