/-
  Texts of this claim in one. Conditions: none.
-/
import Derived.Test.YtlegadpbjccelaaQPartsEnv
import Derived.Test.YtlegadpbjccelaaQPartsVal
import Derived.Test.YtlegadpbjccelaaQPartsPgC
import Derived.Shelf.Lays
import Derived.Test.YtlegadpbjccelaaProg
section
set_option linter.unusedVariables false
set_option linter.unusedSimpArgs false
set_option maxRecDepth 100000
namespace Go.Proofs.Ytlegadpbjccelaa
open Go.RowKit

/-! ### words -/

def among (l : List ByteArray) (s : ByteArray) : Bool := match l with | [] => false | x :: r => decide (s = x) || among r s

end Go.Proofs.Ytlegadpbjccelaa
end

section
namespace Go.Proofs.Ytlegadpbjccelaa
open Go.Shelf

def lays190_ren : Go.Shelf.Ren := ⟨fun | 190 => 135 | 125 => 204 | 258 => 203 | 128 => 270 | 129 => 271 | 302 => 261 | 303 => 262 | 304 => 263 | 305 => 264 | 306 => 265 | 307 => 266 | 308 => 267 | 309 => 268 | 310 => 269 | 333 => 297 | 329 => 298 | 330 => 299 | 334 => 300 | 335 => 301 | 336 => 286 | 344 => 312 | n => n, fun | 31 => 68 | 9 => 9 | 3 => 3 | 46 => 216 | 0 => 0 | 51 => 261 | 53 => 263 | 4 => 4 | 183 => 253 | 182 => 252 | 131 => 258 | 5 => 5 | 218 => 279 | 222 => 283 | 228 => 295 | 229 => 108 | n => n, fun n => n⟩

theorem lays190 : Lays.n190 Try.prog lays190_ren := {
  mixed := by kernel_rfl,
  f125 := Try.func204.trans (congrArg some (by kernel_rfl)),
  f128 := Try.func270.trans (congrArg some (by kernel_rfl)),
  f129 := Try.func271.trans (congrArg some (by kernel_rfl)),
  f190 := Try.func135.trans (congrArg some (by kernel_rfl)),
  f258 := Try.func203.trans (congrArg some (by kernel_rfl)),
  f302 := Try.func261.trans (congrArg some (by kernel_rfl)),
  f303 := Try.func262.trans (congrArg some (by kernel_rfl)),
  f304 := Try.func263.trans (congrArg some (by kernel_rfl)),
  f305 := Try.func264.trans (congrArg some (by kernel_rfl)),
  f306 := Try.func265.trans (congrArg some (by kernel_rfl)),
  f307 := Try.func266.trans (congrArg some (by kernel_rfl)),
  f308 := Try.func267.trans (congrArg some (by kernel_rfl)),
  f309 := Try.func268.trans (congrArg some (by kernel_rfl)),
  f310 := Try.func269.trans (congrArg some (by kernel_rfl)),
  f329 := Try.func298.trans (congrArg some (by kernel_rfl)),
  f330 := Try.func299.trans (congrArg some (by kernel_rfl)),
  f333 := Try.func297.trans (congrArg some (by kernel_rfl)),
  f334 := Try.func300.trans (congrArg some (by kernel_rfl)),
  f335 := Try.func301.trans (congrArg some (by kernel_rfl)),
  f336 := Try.func286.trans (congrArg some (by kernel_rfl)),
  f344 := Try.func312.trans (congrArg some (by kernel_rfl)),
  t0 := Try.underlying0,
  a0 := Try.isAgg0,
  z0 := Try.sizeOf0,
  v0 := Try.zeroValue0,
  t3 := Try.underlying3,
  a3 := Try.isAgg3,
  z3 := Try.sizeOf3,
  v3 := Try.zeroValue3,
  t4 := Try.underlying4,
  a4 := Try.isAgg4,
  z4 := Try.sizeOf4,
  v4 := Try.zeroValue4,
  t5 := Try.underlying5,
  a5 := Try.isAgg5,
  z5 := Try.sizeOf5,
  v5 := Try.zeroValue5,
  t9 := Try.underlying9,
  a9 := Try.isAgg9,
  z9 := Try.sizeOf9,
  v9 := Try.zeroValue9,
  t31 := Try.underlying68,
  a31 := Try.isAgg68,
  z31 := Try.sizeOf68,
  v31 := Try.zeroValue68,
  t46 := Try.underlying216,
  a46 := Try.isAgg216,
  z46 := Try.sizeOf216,
  v46 := Try.zeroValue216,
  t51 := Try.underlying261,
  a51 := Try.isAgg261,
  z51 := Try.sizeOf261,
  v51 := Try.zeroValue261,
  t53 := Try.underlying263,
  a53 := Try.isAgg263,
  z53 := Try.sizeOf263,
  v53 := Try.zeroValue263,
  t131 := Try.underlying258,
  a131 := Try.isAgg258,
  z131 := Try.sizeOf258,
  v131 := Try.zeroValue258,
  t182 := Try.underlying252,
  a182 := Try.isAgg252,
  z182 := Try.sizeOf252,
  v182 := Try.zeroValue252,
  t183 := Try.underlying253,
  a183 := Try.isAgg253,
  z183 := Try.sizeOf253,
  v183 := Try.zeroValue253,
  t218 := Try.underlying279,
  a218 := Try.isAgg279,
  z218 := Try.sizeOf279,
  v218 := Try.zeroValue279,
  t222 := Try.underlying283,
  a222 := Try.isAgg283,
  z222 := Try.sizeOf283,
  v222 := Try.zeroValue283,
  t228 := Try.underlying295,
  a228 := Try.isAgg295,
  z228 := Try.sizeOf295,
  v228 := Try.zeroValue295,
  t229 := Try.underlying108,
  a229 := Try.isAgg108,
  z229 := Try.sizeOf108,
  v229 := Try.zeroValue108 }

end Go.Proofs.Ytlegadpbjccelaa
end
