/-
  The program's way of an operation of one value: outcomes and their results; the plain operations' ways to a result. Conditions: none.
-/
import Derived.Test.YteooogngdejdgaaG1
set_option linter.unusedVariables false
set_option linter.unusedSimpArgs false
set_option maxRecDepth 100000
namespace Go.Proofs.Yteooogngdejdgaa
open Go.RowKit

/-- An outcome: a code, and a value. -/
def outD (c : Int) (v : V) : D := .agg (dI c :: v.rowP)



/-- The cells of an outcome's result. -/
def outC (c : Int) (v : V) : List Cell := if c = 0 then v.cells else []


/-- Cells that may be read: no text in them outgrows the law's bound. -/
def fitsC (cs : List Cell) : Prop := (∀ c ∈ cs, c.text.size ≤ 1048576 ∧ c.key.size ≤ 1048576) ∧ cs.length ≤ 1048576

/-- What an operation of one value gives: its code, and its cells. -/
def oneCode (cs : List Cell) (oc : Int) : Int := if (valOfM cs).2 = 0 then oc else (valOfM cs).2
def oneCells (cs : List Cell) (oc : Int) (ov : V) : List Cell := if (valOfM cs).2 = 0 then outC oc ov else []


theorem flat_cells (cs : List Cell) (n : Nat) (b : Bool) : (Ob.gr 5 95 (cs.map Cell.row) n b).flat := by
  intro r hr
  obtain ⟨c, _, rfl⟩ := List.mem_map.1 hr
  rfl


theorem kind7 {k : Int} (h : 0 ≤ k ∧ k ≤ 6) : k = 0 ∨ k = 1 ∨ k = 2 ∨ k = 3 ∨ k = 4 ∨ k = 5 ∨ k = 6 := by omega

theorem zero_good : V.zero.good :=
  ⟨by decide, fun h => absurd rfl h, fun h => absurd rfl h, fun h => absurd rfl h, by decide, rfl, fun h => absurd h (by decide), fun _ => rfl, fun k hk => absurd hk (by simp), trivial, trivial⟩

end Go.Proofs.Yteooogngdejdgaa
