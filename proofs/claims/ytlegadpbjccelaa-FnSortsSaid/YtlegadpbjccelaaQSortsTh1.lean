/-
  Texts of this claim in one. Conditions: none.
-/
import Derived.Test.YtlegadpbjccelaaQSortsEnv
import Derived.Test.YtlegadpbjccelaaQSortsOr1
import Derived.Test.YtlegadpbjccelaaQSortsPgD
section
set_option linter.unusedVariables false
set_option linter.unusedSimpArgs false
set_option maxRecDepth 100000
namespace Go.Proofs.Ytlegadpbjccelaa
open Go.RowKit

/-! ### sizes of lists, by what an element leaves -/

/-! ### slices of slices of cells -/

abbrev cellsR (cs : List Cell) : List D := [cellsD cs]
abbrev cellssD (xs : List (List Cell)) : D := .sl 1 (xs.map cellsR)

end Go.Proofs.Ytlegadpbjccelaa
end

section
set_option linter.unusedVariables false
set_option linter.unusedSimpArgs false
set_option maxRecDepth 100000
namespace Go.Proofs.Ytlegadpbjccelaa
open Go.RowKit

abbrev intRow (n : Int) : List D := [dI n]

/-- The nodes that the one at a place names (those ahead of it), by what each node names. -/
def kidsOf (nm : Nat → List Int) (k : Nat) : List Nat := ((nm k).map Int.toNat).filter (· < k)

theorem kidsOf_lt {nm : Nat → List Int} {k j : Nat} (h : j ∈ kidsOf nm k) : j < k := by
  simp only [kidsOf, List.mem_filter, decide_eq_true_eq] at h
  exact h.2

/-- The nodes of the tree of one, in their order. -/
def full (nm : Nat → List Int) (k : Nat) : List Nat := (kidsOf nm k).attach.flatMap (fun j => full nm j.1) ++ [k]
termination_by k
decreasing_by exact kidsOf_lt j.2

theorem full_eq (nm : Nat → List Int) (k : Nat) : full nm k = (kidsOf nm k).flatMap (full nm) ++ [k] := by
  rw [full]
  congr 1
  rw [List.flatMap_def, List.flatMap_def]
  exact congrArg List.flatten (List.attach_map_val (f := full nm))

/-! ### numbers that go on by one -/

def cg : List Nat → Prop
  | a :: b :: r => b = a + 1 ∧ cg (b :: r)
  | _ => True

theorem cg_left : ∀ {l1 l2 : List Nat}, cg (l1 ++ l2) → cg l1
  | [], _, _ => trivial
  | [a], _, _ => trivial
  | a :: b :: r, l2, h => ⟨h.1, cg_left (l1 := b :: r) h.2⟩

theorem cg_right : ∀ {l1 l2 : List Nat}, cg (l1 ++ l2) → cg l2
  | [], _, h => h
  | [a], [], _ => trivial
  | [a], b :: r, h => h.2
  | a :: b :: r, l2, h => cg_right (l1 := b :: r) h.2

open Classical in
/-- Where the tree of one begins; -1: its nodes do not stand in order. -/
noncomputable def begM (nm : Nat → List Int) (k : Nat) : Int := if cg (full nm k) then (((full nm k).headD 0 : Nat) : Int) else -1

theorem begM_neg {nm : Nat → List Int} {k : Nat} (h : ¬ cg (full nm k)) : begM nm k = -1 := by rw [begM, if_neg h]
/-- Backward over the nodes that one names: what is left, what has been seen. -/
def Seen (nm : Nat → List Int) (k : Nat) (us : List Nat) (b : Nat) : Prop := ∃ r, full nm k = us.flatMap (full nm) ++ (b :: r) ∧ cg (b :: r)

theorem Seen.start (nm : Nat → List Int) (k : Nat) : Seen nm k (kidsOf nm k) k := ⟨[], full_eq nm k, trivial⟩

theorem Seen.below {nm : Nat → List Int} {k own b : Nat} {us : List Nat} (h : Seen nm k (us ++ [own]) b) (hn : begM nm own < 0) : begM nm k = -1 := by
  obtain ⟨r, h1, h2⟩ := h
  refine begM_neg fun hc => ?_
  rw [h1, List.flatMap_append, List.flatMap_singleton, List.append_assoc] at hc
  have := cg_left (cg_right hc)
  rw [begM, if_pos this] at hn
  omega

/-! ### the order with a bound -/

/-! ### how deep -/

end Go.Proofs.Ytlegadpbjccelaa
end
