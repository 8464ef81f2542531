/-
  Which functions and types of the program are those that the kit's shelf speaks of. Conditions: none.
-/
import Derived.Shelf.LaysC
import Derived.Shelf.LaysM
import Derived.Shelf.Strings.BuilderX
import Derived.Test.YthaakpbdijhgiaaProg
namespace Go.Proofs.Ythaakpbdijhgiaa
open Go.Shelf

def lays138_ren : Go.Shelf.Ren := ⟨fun | 138 => 81 | 195 => 82 | 218 => 83 | 143 => 84 | 219 => 85 | 217 => 86 | 225 => 87 | 224 => 88 | 267 => 89 | 266 => 90 | 314 => 91 | n => n, fun | 9 => 9 | 3 => 3 | 4 => 4 | 5 => 5 | 0 => 0 | 46 => 95 | 146 => 141 | 51 => 34 | n => n, fun | 1 => 0 | n => n⟩

theorem lays138 : Lays.n138 Try.prog lays138_ren := {
  mixed := by kernel_rfl,
  f138 := Try.func81.trans (congrArg some (by kernel_rfl)),
  f143 := Try.func84.trans (congrArg some (by kernel_rfl)),
  f195 := Try.func82.trans (congrArg some (by kernel_rfl)),
  f217 := Try.func86.trans (congrArg some (by kernel_rfl)),
  f218 := Try.func83.trans (congrArg some (by kernel_rfl)),
  f219 := Try.func85.trans (congrArg some (by kernel_rfl)),
  f224 := Try.func88.trans (congrArg some (by kernel_rfl)),
  f225 := Try.func87.trans (congrArg some (by kernel_rfl)),
  f266 := Try.func90.trans (congrArg some (by kernel_rfl)),
  f267 := Try.func89.trans (congrArg some (by kernel_rfl)),
  f314 := Try.func91.trans (congrArg some (by kernel_rfl)),
  t0 := Try.underlying0,
  a0 := Try.isAgg0,
  z0 := Try.sizeOf0,
  v0 := Try.zeroValue0,
  t3 := Try.underlying3,
  a3 := Try.isAgg3,
  z3 := Try.sizeOf3,
  v3 := Try.zeroValue3,
  t4 := Try.underlying4,
  a4 := Try.isAgg4,
  z4 := Try.sizeOf4,
  v4 := Try.zeroValue4,
  t5 := Try.underlying5,
  a5 := Try.isAgg5,
  z5 := Try.sizeOf5,
  v5 := Try.zeroValue5,
  t9 := Try.underlying9,
  a9 := Try.isAgg9,
  z9 := Try.sizeOf9,
  v9 := Try.zeroValue9,
  t46 := Try.underlying95,
  a46 := Try.isAgg95,
  z46 := Try.sizeOf95,
  v46 := Try.zeroValue95,
  t51 := Try.underlying34,
  a51 := Try.isAgg34,
  z51 := Try.sizeOf34,
  v51 := Try.zeroValue34,
  t146 := Try.underlying141,
  a146 := Try.isAgg141,
  z146 := Try.sizeOf141,
  v146 := Try.zeroValue141,
  g1 := by kernel_rfl }

end Go.Proofs.Ythaakpbdijhgiaa
