/-
  The small logic, texts V7 P1 P2 Cm1 Cl1 Mk1 G1 G3 Th1 Mk2 D1 G7 G8 Cm2 Cm3 G9 G6 G11 Ar1 in one. Conditions: none.
-/
import Derived.Test.YthaakpbdijhgiaaGreatDoorQTokensTk1
import Derived.Test.YthaakpbdijhgiaaGreatDoorQTokensEnv
import Derived.Test.YthaakpbdijhgiaaGreatDoorQTokensVal
import Derived.Test.YthaakpbdijhgiaaGreatDoorQTokensPgD
import Derived.Test.YthaakpbdijhgiaaGreatDoorQTokensPgE
import Derived.Lib.Bytealg
import Derived.Lib.Walk
/- Truthy: the program's and the reference's; the law. Conditions: none beyond the law's own. -/
section
set_option linter.unusedVariables false
set_option linter.unusedSimpArgs false
set_option maxRecDepth 100000
namespace Go.Proofs.YthaakpbdijhgiaaGreatDoor
open Go.RowKit

end Go.Proofs.YthaakpbdijhgiaaGreatDoor
end

/- Cells and values, in plain words: what is read at a place; a right value's cells; no program in sight. Conditions: none. -/
section
set_option linter.unusedVariables false
set_option linter.unusedSimpArgs false
set_option maxRecDepth 100000
namespace Go.Proofs.YthaakpbdijhgiaaGreatDoor
open Go.RowKit

/-! ### what is read, without fuel -/

/-! ### the cells of a value -/

mutual
def V.cellsK (key : ByteArray) : V → List Cell
  | .mk k n t ks kids => ⟨k, n, t, key, (kids.length : Int)⟩ :: V.kidsC kids ks
def V.kidsC : List V → List ByteArray → List Cell
  | [], _ => []
  | v :: r, ks => V.cellsK (ks.headD noS) v ++ V.kidsC r ks.tail
end

def V.cells (v : V) : List Cell := v.cellsK noS

/-! ### a value's cells are read as it -/

end Go.Proofs.YthaakpbdijhgiaaGreatDoor
end

/- The parts of a right value in its cells, in plain words: where they begin and end, their keys, their cells; no program in sight. Conditions: none. -/
section
set_option linter.unusedVariables false
set_option linter.unusedSimpArgs false
namespace Go.Proofs.YthaakpbdijhgiaaGreatDoor
open Go.RowKit

/-- Where part j of a value at k begins. -/
def V.at (v : V) (k j : Nat) : Nat := k + 1 + V.counts (v.kids.take j)

end Go.Proofs.YthaakpbdijhgiaaGreatDoor
end

/- The order of values, in plain words, and that it is one: no program in sight. Conditions: none. -/
section
set_option linter.unusedVariables false
set_option linter.unusedSimpArgs false
set_option maxRecDepth 100000
namespace Go.Proofs.YthaakpbdijhgiaaGreatDoor
open Go.RowKit

/-! ### bytes -/

/-! ### an order's laws, for three results -/

end Go.Proofs.YthaakpbdijhgiaaGreatDoor
end

/- A call to which all slices of the call's own are lent to be read. Conditions: none. -/
section
set_option linter.unusedVariables false
set_option linter.unusedSimpArgs false
namespace Go.Proofs.YthaakpbdijhgiaaGreatDoor
open Go.RowKit

section
variable {E : Env} {N : Nm} {Q : Exit → St → Prop} {ops l : List Oper} {ty : TypeId} {pos : String} {after : Array Edge} {gd : Option (Nat × Bool)} {d : Nat} {tm : Nat → T} {ob : List Ob} {G : List Nat}

end
end Go.Proofs.YthaakpbdijhgiaaGreatDoor
end

/- What the laws' marks and holds do to slices of cells and of integers. Conditions: none. -/
section
set_option linter.unusedVariables false
set_option linter.unusedSimpArgs false
set_option maxRecDepth 100000
namespace Go.Proofs.YthaakpbdijhgiaaGreatDoor
open Go.RowKit

end Go.Proofs.YthaakpbdijhgiaaGreatDoor
end

/- The program's way from values to cells: counts, cells, faults, results. Conditions: none. -/
section
set_option linter.unusedVariables false
set_option linter.unusedSimpArgs false
set_option maxRecDepth 100000
namespace Go.Proofs.YthaakpbdijhgiaaGreatDoor
open Go.RowKit

section
variable {E : Env} {N : Nm} {Q : Exit → St → Prop} {S : St} {ops l : List Oper} {ty : TypeId} {pos : String} {after : Array Edge} {gd : Option (Nat × Bool)} {d : Nat} {tm : Nat → T} {ob : List Ob} {G : List Nat}
theorem WG.pub (k : Nat) {z : Nat} {e : TypeId} {rows : List (List D)} {n : Nat} (hk : ob[k]? = some (.gr z e rows n false)) (h : WG G E.P N ops l Q ⟨tm, ob.set k (.gr z e rows n true)⟩) : WG G E.P N ops l Q ⟨tm, ob⟩ := WL.pub (S := ⟨tm, ob⟩) k hk h
end

/-! ### the cells of a right value are right -/

end Go.Proofs.YthaakpbdijhgiaaGreatDoor
end

/- The program's way of an operation of one value: outcomes and their results; the plain operations' ways to a result. Conditions: none. -/
section
set_option linter.unusedVariables false
set_option linter.unusedSimpArgs false
set_option maxRecDepth 100000
namespace Go.Proofs.YthaakpbdijhgiaaGreatDoor
open Go.RowKit

end Go.Proofs.YthaakpbdijhgiaaGreatDoor
end

/- Nodes that name nodes ahead of them: the order in which they stand, how deep they are; no program in sight. Conditions: none. -/
section
set_option linter.unusedVariables false
set_option linter.unusedSimpArgs false
set_option maxRecDepth 100000
namespace Go.Proofs.YthaakpbdijhgiaaGreatDoor
open Go.RowKit

abbrev intRow (n : Int) : List D := [dI n]

/-- The nodes that the one at a place names (those ahead of it), by what each node names. -/
def kidsOf (nm : Nat → List Int) (k : Nat) : List Nat := ((nm k).map Int.toNat).filter (· < k)

theorem kidsOf_lt {nm : Nat → List Int} {k j : Nat} (h : j ∈ kidsOf nm k) : j < k := by
  simp only [kidsOf, List.mem_filter, decide_eq_true_eq] at h
  exact h.2

/-- The nodes of the tree of one, in their order. -/
def full (nm : Nat → List Int) (k : Nat) : List Nat := (kidsOf nm k).attach.flatMap (fun j => full nm j.1) ++ [k]
termination_by k
decreasing_by exact kidsOf_lt j.2

theorem full_eq (nm : Nat → List Int) (k : Nat) : full nm k = (kidsOf nm k).flatMap (full nm) ++ [k] := by
  rw [full]
  congr 1
  rw [List.flatMap_def, List.flatMap_def]
  exact congrArg List.flatten (List.attach_map_val (f := full nm))

/-! ### numbers that go on by one -/

def cg : List Nat → Prop
  | a :: b :: r => b = a + 1 ∧ cg (b :: r)
  | _ => True

theorem cg_left : ∀ {l1 l2 : List Nat}, cg (l1 ++ l2) → cg l1
  | [], _, _ => trivial
  | [a], _, _ => trivial
  | a :: b :: r, l2, h => ⟨h.1, cg_left (l1 := b :: r) h.2⟩

theorem cg_right : ∀ {l1 l2 : List Nat}, cg (l1 ++ l2) → cg l2
  | [], _, h => h
  | [a], [], _ => trivial
  | [a], b :: r, h => h.2
  | a :: b :: r, l2, h => cg_right (l1 := b :: r) h.2

open Classical in
/-- Where the tree of one begins; -1: its nodes do not stand in order. -/
noncomputable def begM (nm : Nat → List Int) (k : Nat) : Int := if cg (full nm k) then (((full nm k).headD 0 : Nat) : Int) else -1

theorem begM_neg {nm : Nat → List Int} {k : Nat} (h : ¬ cg (full nm k)) : begM nm k = -1 := by rw [begM, if_neg h]
/-- Backward over the nodes that one names: what is left, what has been seen. -/
def Seen (nm : Nat → List Int) (k : Nat) (us : List Nat) (b : Nat) : Prop := ∃ r, full nm k = us.flatMap (full nm) ++ (b :: r) ∧ cg (b :: r)

theorem Seen.start (nm : Nat → List Int) (k : Nat) : Seen nm k (kidsOf nm k) k := ⟨[], full_eq nm k, trivial⟩

theorem Seen.below {nm : Nat → List Int} {k own b : Nat} {us : List Nat} (h : Seen nm k (us ++ [own]) b) (hn : begM nm own < 0) : begM nm k = -1 := by
  obtain ⟨r, h1, h2⟩ := h
  refine begM_neg fun hc => ?_
  rw [h1, List.flatMap_append, List.flatMap_singleton, List.append_assoc] at hc
  have := cg_left (cg_right hc)
  rw [begM, if_pos this] at hn
  omega

/-! ### the order with a bound -/

/-! ### how deep -/

end Go.Proofs.YthaakpbdijhgiaaGreatDoor
end

/- What the laws' marks and holds do to slices of integers and to their results; two arguments' sizes. Conditions: none. -/
section
set_option linter.unusedVariables false
set_option linter.unusedSimpArgs false
set_option maxRecDepth 100000
namespace Go.Proofs.YthaakpbdijhgiaaGreatDoor
open Go.RowKit

end Go.Proofs.YthaakpbdijhgiaaGreatDoor
end

/- DepthOf and EndAt: the program's and the reference's; the laws. Conditions: none beyond the laws' own. -/
section
set_option linter.unusedVariables false
set_option linter.unusedSimpArgs false
set_option maxRecDepth 100000
namespace Go.Proofs.YthaakpbdijhgiaaGreatDoor
open Go.RowKit

/-! ### EndAt -/

end Go.Proofs.YthaakpbdijhgiaaGreatDoor
end

/- The law of PartAt. Conditions: none. -/
section
set_option linter.unusedVariables false
set_option linter.unusedSimpArgs false
set_option maxRecDepth 100000
namespace Go.Proofs.YthaakpbdijhgiaaGreatDoor
open Go.RowKit

section
variable {E : Env} {N : Nm} {Q : Exit → St → Prop} {S : St} {ops l : List Oper} {ty : TypeId} {pos : String} {after : Array Edge} {gd : Option (Nat × Bool)} {d : Nat}

variable {tm : Nat → T} {ob : List Ob} {G : List Nat}
end

end Go.Proofs.YthaakpbdijhgiaaGreatDoor
end

/- The parts of a value and their keys: the program's ChildrenAt, the reference's children, parts and keys. Conditions: none. -/
section
set_option linter.unusedVariables false
set_option linter.unusedSimpArgs false
set_option maxRecDepth 100000
namespace Go.Proofs.YthaakpbdijhgiaaGreatDoor
open Go.RowKit

end Go.Proofs.YthaakpbdijhgiaaGreatDoor
end

/- The program's way of comparing values. Conditions: values of at most 2^20 cells. -/
section
set_option linter.unusedVariables false
set_option linter.unusedSimpArgs false
set_option maxRecDepth 100000
namespace Go.Proofs.YthaakpbdijhgiaaGreatDoor
open Go.RowKit

end Go.Proofs.YthaakpbdijhgiaaGreatDoor
end

/- The reference's way of comparing values: parts, keys, comparison; what both ways give. Conditions: none. -/
section
set_option linter.unusedVariables false
set_option linter.unusedSimpArgs false
set_option maxRecDepth 100000
namespace Go.Proofs.YthaakpbdijhgiaaGreatDoor
open Go.RowKit

end Go.Proofs.YthaakpbdijhgiaaGreatDoor
end

/- Operations of one value that have captured something; a part of a value by its number. Conditions: none. -/
section
set_option linter.unusedVariables false
set_option linter.unusedSimpArgs false
set_option maxRecDepth 100000
namespace Go.Proofs.YthaakpbdijhgiaaGreatDoor
open Go.RowKit

end Go.Proofs.YthaakpbdijhgiaaGreatDoor
end

/- The law of RangeOf. Conditions: none. -/
section
set_option linter.unusedVariables false
set_option linter.unusedSimpArgs false
set_option maxRecDepth 100000
namespace Go.Proofs.YthaakpbdijhgiaaGreatDoor
open Go.RowKit

end Go.Proofs.YthaakpbdijhgiaaGreatDoor
end

/- Arrays that are made of values; values told with their fault; all values in a value; keys as values. Conditions: none. -/
section
set_option linter.unusedVariables false
set_option linter.unusedSimpArgs false
set_option maxRecDepth 100000
namespace Go.Proofs.YthaakpbdijhgiaaGreatDoor
open Go.RowKit

end Go.Proofs.YthaakpbdijhgiaaGreatDoor
end

/- An array out of values, by the program and by the reference. Conditions: cells of at most 2^20 bytes. -/
section
set_option linter.unusedVariables false
set_option linter.unusedSimpArgs false
set_option maxRecDepth 100000
namespace Go.Proofs.YthaakpbdijhgiaaGreatDoor
open Go.RowKit

end Go.Proofs.YthaakpbdijhgiaaGreatDoor
end
