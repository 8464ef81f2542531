/-
  The types of this seat's program, for the small logic. Written by a program of ours (genenv.py); the kernel holds each row against the program.
-/
import Derived.Test.YtgdedcbijgeodaaDoorChecked
import Derived.Test.YtgdedcbijgeodaaDoorPgD
import Derived.KernelRfl
namespace Go.Proofs.YtgdedcbijgeodaaDoor
def tyTab : List (TypeId × TyI) := [
  (1, { kind := .other, size := 1, bytes := 8, zero := [D.v .nilFunc], offs := [] }),
  (2, { kind := .int .i64, size := 1, bytes := 8, zero := [D.v (.int .i64 0)], offs := [] }),
  (3, { kind := .int .i64, size := 1, bytes := 8, zero := [D.v (.int .i64 0)], offs := [] }),
  (4, { kind := .bool, size := 1, bytes := 1, zero := [D.v (.bool false)], offs := [] }),
  (5, { kind := .int .u8, size := 1, bytes := 1, zero := [D.v (.int .u8 0)], offs := [] }),
  (9, { kind := .string, size := 1, bytes := 16, zero := [D.v (.string ByteArray.empty)], offs := [] }),
  (12, { kind := .int .u64, size := 1, bytes := 8, zero := [D.v (.int .u64 0)], offs := [] }),
  (13, { kind := .struct, size := 2, bytes := 24, zero := [D.v (.string ByteArray.empty), D.v (.int .u64 0)], offs := [(0, 1, false), (1, 1, false)] }),
  (20, { kind := .other, size := 1, bytes := 16, zero := [D.v .nilIface], offs := [] }),
  (21, { kind := .int .i32, size := 1, bytes := 4, zero := [D.v (.int .i32 0)], offs := [] }),
  (22, { kind := .struct, size := 2, bytes := 16, zero := [D.v (.int .i64 0), D.v (.int .i64 0)], offs := [(0, 1, false), (1, 1, false)] }),
  (23, { kind := .struct, size := 2, bytes := 16, zero := [D.v (.int .i64 0), D.v (.int .i64 0)], offs := [(0, 1, false), (1, 1, false)] }),
  (24, { kind := .other, size := 1, bytes := 8, zero := [D.v .nilFunc], offs := [] }),
  (25, { kind := .other, size := 1, bytes := 8, zero := [D.v .nilFunc], offs := [] }),
  (26, { kind := .other, size := 1, bytes := 8, zero := [D.v .nilFunc], offs := [] }),
  (28, { kind := .other, size := 1, bytes := 8, zero := [D.v .nilFunc], offs := [] }),
  (30, { kind := .other, size := 1, bytes := 8, zero := [D.v .nilFunc], offs := [] }),
  (31, { kind := .other, size := 1, bytes := 8, zero := [D.v .nilFunc], offs := [] }),
  (32, { kind := .other, size := 1, bytes := 8, zero := [D.v .nilFunc], offs := [] }),
  (34, { kind := .other, size := 1, bytes := 8, zero := [D.v .nilFunc], offs := [] }),
  (35, { kind := .other, size := 1, bytes := 8, zero := [D.v .nilFunc], offs := [] }),
  (36, { kind := .other, size := 1, bytes := 16, zero := [D.v .nilIface], offs := [] }),
  (37, { kind := .other, size := 1, bytes := 16, zero := [D.v .nilIface], offs := [] }),
  (39, { kind := .other, size := 1, bytes := 8, zero := [D.v .nilFunc], offs := [] }),
  (40, { kind := .other, size := 1, bytes := 8, zero := [D.v .nilFunc], offs := [] }),
  (41, { kind := .other, size := 1, bytes := 8, zero := [D.v .nilFunc], offs := [] }),
  (42, { kind := .other, size := 1, bytes := 8, zero := [D.v .nilFunc], offs := [] }),
  (43, { kind := .int .i64, size := 1, bytes := 8, zero := [D.v (.int .i64 0)], offs := [] }),
  (44, { kind := .int .u64, size := 1, bytes := 8, zero := [D.v (.int .u64 0)], offs := [] }),
  (46, { kind := .other, size := 1, bytes := 8, zero := [D.v .nilFunc], offs := [] }),
  (47, { kind := .int .u64, size := 1, bytes := 8, zero := [D.v (.int .u64 0)], offs := [] }),
  (48, { kind := .other, size := 1, bytes := 8, zero := [D.v (.pointer none)], offs := [] }),
  (49, { kind := .other, size := 1, bytes := 8, zero := [D.v .nilFunc], offs := [] }),
  (50, { kind := .other, size := 1, bytes := 8, zero := [D.v .nilFunc], offs := [] }),
  (51, { kind := .other, size := 1, bytes := 8, zero := [D.v .nilFunc], offs := [] }),
  (52, { kind := .slice 5, size := 1, bytes := 24, zero := [D.nl 1], offs := [] }),
  (53, { kind := .other, size := 1, bytes := 8, zero := [D.v .nilFunc], offs := [] }),
  (54, { kind := .struct, size := 3, bytes := 48, zero := [D.v (.string ByteArray.empty), D.v (.string ByteArray.empty), D.v .nilIface], offs := [(0, 1, false), (1, 1, false), (2, 1, false)] }),
  (55, { kind := .struct, size := 3, bytes := 48, zero := [D.v (.string ByteArray.empty), D.v (.string ByteArray.empty), D.v .nilIface], offs := [(0, 1, false), (1, 1, false), (2, 1, false)] }),
  (56, { kind := .other, size := 1, bytes := 8, zero := [D.v .nilFunc], offs := [] }),
  (57, { kind := .other, size := 1, bytes := 8, zero := [D.v .nilFunc], offs := [] }),
  (58, { kind := .other, size := 1, bytes := 8, zero := [D.v (.pointer none)], offs := [] }),
  (59, { kind := .other, size := 1, bytes := 8, zero := [D.v (.pointer none)], offs := [] }),
  (60, { kind := .struct, size := 1, bytes := 16, zero := [D.v (.string ByteArray.empty)], offs := [(0, 1, false)] }),
  (61, { kind := .struct, size := 1, bytes := 16, zero := [D.v (.string ByteArray.empty)], offs := [(0, 1, false)] }),
  (62, { kind := .other, size := 1, bytes := 8, zero := [D.v .nilFunc], offs := [] }),
  (64, { kind := .other, size := 1, bytes := 8, zero := [D.v .nilFunc], offs := [] }),
  (65, { kind := .other, size := 1, bytes := 8, zero := [D.v .nilFunc], offs := [] }),
  (67, { kind := .other, size := 1, bytes := 8, zero := [D.v .nilFunc], offs := [] }),
  (68, { kind := .other, size := 1, bytes := 8, zero := [D.v .nilFunc], offs := [] }),
  (69, { kind := .other, size := 1, bytes := 8, zero := [D.v .nilFunc], offs := [] }),
  (71, { kind := .int .u32, size := 1, bytes := 4, zero := [D.v (.int .u32 0)], offs := [] }),
  (73, { kind := .other, size := 1, bytes := 8, zero := [D.v .nilFunc], offs := [] }),
  (74, { kind := .other, size := 1, bytes := 8, zero := [D.v .nilFunc], offs := [] }),
  (75, { kind := .other, size := 1, bytes := 8, zero := [D.v .nilFunc], offs := [] }),
  (78, { kind := .other, size := 1, bytes := 8, zero := [D.v .nilFunc], offs := [] }),
  (84, { kind := .other, size := 1, bytes := 8, zero := [D.v .nilFunc], offs := [] })]

theorem tyTab_ok : tyTab.all (fun p => tyCheck Tryd.prog p.1 p.2) = true := by kernel_rfl

noncomputable def env : Env := ⟨Tryd.prog, look tyTab, look_ok tyTab tyTab_ok⟩

end Go.Proofs.YtgdedcbijgeodaaDoor
