/-
  What the tied cards of this seat have in common: the variables that they list (tables, two errors), and the table of powers of ten among them. Conditions: none.
-/
import Derived.Test.YthaakpbdijhgiaaGreatDoorRows
import Derived.Test.YthaakpbdijhgiaaGreatDoorCards
import Derived.Test.YthaakpbdijhgiaaGreatDoorTie
import Derived.Test.YthaakpbdijhgiaaGreatDoorQTokensEnv
import Derived.Test.YthaakpbdijhgiaaGreatDoorQTokensPgC
import Derived.Test.YthaakpbdijhgiaaGreatDoorQTokensTb2
import Derived.LaidMore
import Derived.Lib.LaidTab
import Derived.Stop.Joined
import Derived.Stop.LaidErr
import Derived.SevenTiedAt
set_option linter.unusedVariables false
namespace Go.Proofs.YthaakpbdijhgiaaGreatDoor
open Go.ChangeShapes Go.WideShapes Go.ChangeAt Go.RowKit

theorem tied_own : ownKnob Tryz.prog.godebug = none := by kernel_rfl
theorem tied_laid : laidOutB Tryz.prog = true := by kernel_rfl

abbrev laidL : List (String × DataW Unit) := [("math/bits.deBruijn32tab", Rows.laid_math_bits_deBruijn32tab), ("math/bits.deBruijn64tab", Rows.laid_math_bits_deBruijn64tab), ("internal/strconv.uint64pow10", Rows.laid_internal_strconv_uint64pow10), ("strconv.ErrRange", Rows.laid_strconv_ErrRange), ("strconv.ErrSyntax", Rows.laid_strconv_ErrSyntax)]

/-- What the condition gives the walk: the table's block. -/
theorem of_laid {W : World} (h : laidMetH Tryz.prog laidL W) : ∃ q : TypeId × (Nat × Nat), W.heap[gTab]? = some (.cells (Lib.pow10Tab.map (Value.int .u64)).toArray q.1 q.2) := by
  rw [MakeChecks.laidMetH_plain _ _ _ (by kernel_rfl)] at h
  have ht : Lib.TabIs Tryz.prog W "internal/strconv.uint64pow10" .u64 Lib.pow10Tab :=
    Lib.tabIs_of_head gTab_is (by kernel_rfl) (t := 121) (e := 89) (n := 20) (by kernel_rfl) (by kernel_rfl) (by kernel_rfl) (by kernel_rfl) h.tail.tail
  unfold Lib.TabIs World.var? at ht
  rw [show Tryz.prog.globalNamed "internal/strconv.uint64pow10" = some gTab from gTab_is] at ht
  simp only [Option.bind_some] at ht
  split at ht
  · rename_i cs t fr hh
    exact ⟨(t, fr), by rw [hh, Option.some.inj ht]⟩
  · cases ht

/-- The door's own heap meets the condition. -/
theorem door_met (os : Os) (args : Array Value) : laidMetH Tryz.prog laidL ((World.doorLaid Tryz.prog 400 os).forCall (fun _ _ => 0) ⟨#[], args, []⟩).memory :=
  laidMetH_of_parts3 (fuel := 8) (laidMet_of_run' 8 (by kernel_rfl) (by kernel_rfl)) (by kernel_rfl) (by kernel_rfl)

end Go.Proofs.YthaakpbdijhgiaaGreatDoor
