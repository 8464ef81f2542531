/-
  Texts of this claim in one. Conditions: none.
-/
import Derived.Test.YtmmjbpgdkokjgaaGreatChecked
import Derived.Test.YtmmjbpgdkokjgaaGreatQLowerTreePgD
import Derived.KernelRfl
import Derived.Test.YtmmjbpgdkokjgaaGreatQLowerTreePgC
section
namespace Go.Proofs.YtmmjbpgdkokjgaaGreat
def tyTab : List (TypeId × TyI) := [
  (1, { kind := .other, size := 1, bytes := 8, zero := [D.v .nilFunc], offs := [] }),
  (2, { kind := .int .i64, size := 1, bytes := 8, zero := [D.v (.int .i64 0)], offs := [] }),
  (3, { kind := .int .i64, size := 1, bytes := 8, zero := [D.v (.int .i64 0)], offs := [] }),
  (4, { kind := .bool, size := 1, bytes := 1, zero := [D.v (.bool false)], offs := [] }),
  (5, { kind := .int .u8, size := 1, bytes := 1, zero := [D.v (.int .u8 0)], offs := [] }),
  (9, { kind := .string, size := 1, bytes := 16, zero := [D.v (.string ByteArray.empty)], offs := [] }),
  (12, { kind := .int .u64, size := 1, bytes := 8, zero := [D.v (.int .u64 0)], offs := [] }),
  (13, { kind := .struct, size := 2, bytes := 24, zero := [D.v (.string ByteArray.empty), D.v (.int .u64 0)], offs := [(0, 1, false), (1, 1, false)] }),
  (20, { kind := .other, size := 1, bytes := 16, zero := [D.v .nilIface], offs := [] }),
  (21, { kind := .int .i32, size := 1, bytes := 4, zero := [D.v (.int .i32 0)], offs := [] }),
  (22, { kind := .slice 37, size := 1, bytes := 24, zero := [D.nl 6], offs := [] }),
  (23, { kind := .other, size := 1, bytes := 8, zero := [D.v .nilFunc], offs := [] }),
  (24, { kind := .slice 66, size := 1, bytes := 24, zero := [D.nl 6], offs := [] }),
  (25, { kind := .struct, size := 3, bytes := 40, zero := [D.v (.int .i64 0), D.v (.int .i64 0), D.nl 6], offs := [(0, 1, false), (1, 1, false), (2, 1, false)] }),
  (26, { kind := .struct, size := 3, bytes := 40, zero := [D.v (.int .i64 0), D.v (.int .i64 0), D.nl 6], offs := [(0, 1, false), (1, 1, false), (2, 1, false)] }),
  (27, { kind := .other, size := 1, bytes := 8, zero := [D.v .nilFunc], offs := [] }),
  (28, { kind := .slice 45, size := 1, bytes := 24, zero := [D.nl 6], offs := [] }),
  (29, { kind := .other, size := 1, bytes := 8, zero := [D.v .nilFunc], offs := [] }),
  (30, { kind := .other, size := 1, bytes := 8, zero := [D.v .nilFunc], offs := [] }),
  (31, { kind := .other, size := 1, bytes := 8, zero := [D.v .nilFunc], offs := [] }),
  (32, { kind := .other, size := 1, bytes := 8, zero := [D.v .nilFunc], offs := [] }),
  (33, { kind := .other, size := 1, bytes := 8, zero := [D.v .nilFunc], offs := [] }),
  (34, { kind := .other, size := 1, bytes := 8, zero := [D.v .nilFunc], offs := [] }),
  (35, { kind := .other, size := 1, bytes := 8, zero := [D.v .nilFunc], offs := [] }),
  (36, { kind := .struct, size := 6, bytes := 56, zero := [D.v (.int .i64 0), D.v (.int .i64 0), D.v (.int .i64 0), D.v (.int .i64 0), D.v (.int .i64 0), D.v (.string ByteArray.empty)], offs := [(0, 1, false), (1, 1, false), (2, 1, false), (3, 1, false), (4, 1, false), (5, 1, false)] }),
  (37, { kind := .struct, size := 6, bytes := 56, zero := [D.v (.int .i64 0), D.v (.int .i64 0), D.v (.int .i64 0), D.v (.int .i64 0), D.v (.int .i64 0), D.v (.string ByteArray.empty)], offs := [(0, 1, false), (1, 1, false), (2, 1, false), (3, 1, false), (4, 1, false), (5, 1, false)] }),
  (38, { kind := .struct, size := 2, bytes := 16, zero := [D.v (.int .i64 0), D.v (.int .i64 0)], offs := [(0, 1, false), (1, 1, false)] }),
  (39, { kind := .struct, size := 2, bytes := 16, zero := [D.v (.int .i64 0), D.v (.int .i64 0)], offs := [(0, 1, false), (1, 1, false)] }),
  (40, { kind := .other, size := 1, bytes := 8, zero := [D.v .nilFunc], offs := [] }),
  (41, { kind := .struct, size := 2, bytes := 48, zero := [D.nl 6, D.nl 6], offs := [(0, 1, false), (1, 1, false)] }),
  (42, { kind := .struct, size := 2, bytes := 48, zero := [D.nl 6, D.nl 6], offs := [(0, 1, false), (1, 1, false)] }),
  (43, { kind := .other, size := 1, bytes := 8, zero := [D.v .nilFunc], offs := [] }),
  (44, { kind := .other, size := 1, bytes := 8, zero := [D.v (.pointer none)], offs := [] }),
  (45, { kind := .struct, size := 6, bytes := 56, zero := [D.v (.int .i64 0), D.v (.int .i64 0), D.v (.int .i64 0), D.v (.int .i64 0), D.v (.int .i64 0), D.v (.string ByteArray.empty)], offs := [(0, 1, false), (1, 1, false), (2, 1, false), (3, 1, false), (4, 1, false), (5, 1, false)] }),
  (46, { kind := .other, size := 1, bytes := 8, zero := [D.v .nilFunc], offs := [] }),
  (47, { kind := .other, size := 1, bytes := 8, zero := [D.v (.pointer none)], offs := [] }),
  (48, { kind := .struct, size := 2, bytes := 48, zero := [D.nl 6, D.nl 6], offs := [(0, 1, false), (1, 1, false)] }),
  (49, { kind := .struct, size := 2, bytes := 48, zero := [D.nl 6, D.nl 6], offs := [(0, 1, false), (1, 1, false)] }),
  (50, { kind := .other, size := 1, bytes := 8, zero := [D.v .nilFunc], offs := [] }),
  (51, { kind := .other, size := 1, bytes := 8, zero := [D.v .nilFunc], offs := [] }),
  (52, { kind := .other, size := 1, bytes := 8, zero := [D.v .nilFunc], offs := [] }),
  (53, { kind := .other, size := 1, bytes := 8, zero := [D.v .nilFunc], offs := [] }),
  (54, { kind := .other, size := 1, bytes := 8, zero := [D.v .nilFunc], offs := [] }),
  (55, { kind := .other, size := 1, bytes := 8, zero := [D.v .nilFunc], offs := [] }),
  (56, { kind := .slice 2, size := 1, bytes := 24, zero := [D.nl 1], offs := [] }),
  (57, { kind := .other, size := 1, bytes := 8, zero := [D.v .nilFunc], offs := [] }),
  (58, { kind := .slice 9, size := 1, bytes := 24, zero := [D.nl 1], offs := [] }),
  (59, { kind := .other, size := 1, bytes := 8, zero := [D.v .nilFunc], offs := [] }),
  (60, { kind := .other, size := 1, bytes := 8, zero := [D.v .nilFunc], offs := [] }),
  (61, { kind := .other, size := 1, bytes := 8, zero := [D.v .nilFunc], offs := [] }),
  (62, { kind := .other, size := 1, bytes := 8, zero := [D.v .nilFunc], offs := [] }),
  (63, { kind := .other, size := 1, bytes := 8, zero := [D.v .nilFunc], offs := [] }),
  (64, { kind := .slice 93, size := 1, bytes := 24, zero := [D.nl 5], offs := [] }),
  (65, { kind := .struct, size := 6, bytes := 64, zero := [D.v (.int .i64 0), D.v (.int .i64 0), D.v (.int .i64 0), D.v (.int .i64 0), D.v (.int .i64 0), D.nl 5], offs := [(0, 1, false), (1, 1, false), (2, 1, false), (3, 1, false), (4, 1, false), (5, 1, false)] }),
  (66, { kind := .struct, size := 6, bytes := 64, zero := [D.v (.int .i64 0), D.v (.int .i64 0), D.v (.int .i64 0), D.v (.int .i64 0), D.v (.int .i64 0), D.nl 5], offs := [(0, 1, false), (1, 1, false), (2, 1, false), (3, 1, false), (4, 1, false), (5, 1, false)] }),
  (67, { kind := .other, size := 1, bytes := 8, zero := [D.v .nilFunc], offs := [] }),
  (68, { kind := .other, size := 1, bytes := 8, zero := [D.v .nilFunc], offs := [] }),
  (69, { kind := .other, size := 1, bytes := 8, zero := [D.v .nilFunc], offs := [] }),
  (70, { kind := .other, size := 1, bytes := 8, zero := [D.v .nilFunc], offs := [] }),
  (71, { kind := .other, size := 1, bytes := 8, zero := [D.v .nilFunc], offs := [] }),
  (72, { kind := .slice 74, size := 1, bytes := 24, zero := [D.nl 5], offs := [] }),
  (73, { kind := .struct, size := 5, bytes := 80, zero := [D.v (.int .i64 0), D.v (.int .i64 0), D.v (.string ByteArray.empty), D.nl 1, D.nl 5], offs := [(0, 1, false), (1, 1, false), (2, 1, false), (3, 1, false), (4, 1, false)] }),
  (74, { kind := .struct, size := 5, bytes := 80, zero := [D.v (.int .i64 0), D.v (.int .i64 0), D.v (.string ByteArray.empty), D.nl 1, D.nl 5], offs := [(0, 1, false), (1, 1, false), (2, 1, false), (3, 1, false), (4, 1, false)] }),
  (75, { kind := .other, size := 1, bytes := 8, zero := [D.v .nilFunc], offs := [] }),
  (76, { kind := .other, size := 1, bytes := 8, zero := [D.v .nilFunc], offs := [] }),
  (77, { kind := .other, size := 1, bytes := 8, zero := [D.v .nilFunc], offs := [] }),
  (78, { kind := .other, size := 1, bytes := 8, zero := [D.v .nilFunc], offs := [] }),
  (79, { kind := .other, size := 1, bytes := 8, zero := [D.v .nilFunc], offs := [] }),
  (80, { kind := .other, size := 1, bytes := 8, zero := [D.v .nilFunc], offs := [] }),
  (81, { kind := .other, size := 1, bytes := 8, zero := [D.v .nilFunc], offs := [] }),
  (82, { kind := .other, size := 1, bytes := 8, zero := [D.v .nilFunc], offs := [] }),
  (83, { kind := .other, size := 1, bytes := 8, zero := [D.v .nilFunc], offs := [] }),
  (84, { kind := .slice 5, size := 1, bytes := 24, zero := [D.nl 1], offs := [] }),
  (85, { kind := .other, size := 1, bytes := 8, zero := [D.v .nilFunc], offs := [] }),
  (86, { kind := .other, size := 1, bytes := 8, zero := [D.v .nilFunc], offs := [] }),
  (87, { kind := .other, size := 1, bytes := 8, zero := [D.v .nilFunc], offs := [] }),
  (88, { kind := .other, size := 1, bytes := 8, zero := [D.v .nilFunc], offs := [] }),
  (89, { kind := .other, size := 1, bytes := 8, zero := [D.v .nilFunc], offs := [] }),
  (90, { kind := .other, size := 1, bytes := 8, zero := [D.v .nilFunc], offs := [] }),
  (91, { kind := .other, size := 1, bytes := 8, zero := [D.v .nilFunc], offs := [] }),
  (92, { kind := .struct, size := 5, bytes := 56, zero := [D.v (.int .i64 0), D.v (.int .i64 0), D.v (.string ByteArray.empty), D.v (.string ByteArray.empty), D.v (.int .i64 0)], offs := [(0, 1, false), (1, 1, false), (2, 1, false), (3, 1, false), (4, 1, false)] }),
  (93, { kind := .struct, size := 5, bytes := 56, zero := [D.v (.int .i64 0), D.v (.int .i64 0), D.v (.string ByteArray.empty), D.v (.string ByteArray.empty), D.v (.int .i64 0)], offs := [(0, 1, false), (1, 1, false), (2, 1, false), (3, 1, false), (4, 1, false)] }),
  (94, { kind := .other, size := 1, bytes := 8, zero := [D.v .nilFunc], offs := [] }),
  (95, { kind := .other, size := 1, bytes := 8, zero := [D.v .nilFunc], offs := [] }),
  (96, { kind := .other, size := 1, bytes := 8, zero := [D.v .nilFunc], offs := [] }),
  (97, { kind := .other, size := 1, bytes := 8, zero := [D.v .nilFunc], offs := [] }),
  (98, { kind := .other, size := 1, bytes := 8, zero := [D.v .nilFunc], offs := [] }),
  (99, { kind := .other, size := 1, bytes := 8, zero := [D.v .nilFunc], offs := [] }),
  (100, { kind := .other, size := 1, bytes := 8, zero := [D.v .nilFunc], offs := [] }),
  (101, { kind := .other, size := 1, bytes := 8, zero := [D.v .nilFunc], offs := [] }),
  (102, { kind := .slice 103, size := 1, bytes := 24, zero := [D.nl 1], offs := [] }),
  (103, { kind := .other, size := 1, bytes := 8, zero := [D.v (.pointer none)], offs := [] }),
  (104, { kind := .other, size := 1, bytes := 8, zero := [D.v .nilFunc], offs := [] }),
  (105, { kind := .other, size := 1, bytes := 8, zero := [D.v .nilFunc], offs := [] }),
  (106, { kind := .other, size := 1, bytes := 8, zero := [D.v .nilFunc], offs := [] }),
  (107, { kind := .other, size := 1, bytes := 8, zero := [D.v (.map none)], offs := [] }),
  (108, { kind := .other, size := 1, bytes := 8, zero := [D.v .nilFunc], offs := [] }),
  (109, { kind := .other, size := 1, bytes := 8, zero := [D.v .nilFunc], offs := [] }),
  (110, { kind := .other, size := 1, bytes := 8, zero := [D.v (.map none)], offs := [] }),
  (111, { kind := .other, size := 1, bytes := 8, zero := [D.v .nilFunc], offs := [] }),
  (113, { kind := .other, size := 1, bytes := 8, zero := [D.v .nilFunc], offs := [] }),
  (114, { kind := .other, size := 1, bytes := 8, zero := [D.v .nilFunc], offs := [] }),
  (115, { kind := .other, size := 1, bytes := 8, zero := [D.v .nilFunc], offs := [] }),
  (116, { kind := .other, size := 1, bytes := 8, zero := [D.v .nilFunc], offs := [] }),
  (117, { kind := .other, size := 1, bytes := 8, zero := [D.v .nilFunc], offs := [] }),
  (118, { kind := .other, size := 1, bytes := 8, zero := [D.v .nilFunc], offs := [] }),
  (119, { kind := .other, size := 1, bytes := 8, zero := [D.v .nilFunc], offs := [] }),
  (120, { kind := .other, size := 1, bytes := 8, zero := [D.v .nilFunc], offs := [] }),
  (121, { kind := .other, size := 1, bytes := 8, zero := [D.v .nilFunc], offs := [] }),
  (122, { kind := .other, size := 1, bytes := 8, zero := [D.v .nilFunc], offs := [] }),
  (123, { kind := .other, size := 1, bytes := 8, zero := [D.v .nilFunc], offs := [] }),
  (124, { kind := .other, size := 1, bytes := 8, zero := [D.v .nilFunc], offs := [] }),
  (125, { kind := .other, size := 1, bytes := 8, zero := [D.v .nilFunc], offs := [] }),
  (126, { kind := .int .u64, size := 1, bytes := 8, zero := [D.v (.int .u64 0)], offs := [] }),
  (127, { kind := .other, size := 1, bytes := 8, zero := [D.v .nilFunc], offs := [] }),
  (128, { kind := .other, size := 1, bytes := 8, zero := [D.v .nilFunc], offs := [] }),
  (129, { kind := .other, size := 1, bytes := 8, zero := [D.v .nilFunc], offs := [] }),
  (130, { kind := .other, size := 1, bytes := 8, zero := [D.v .nilFunc], offs := [] }),
  (131, { kind := .other, size := 1, bytes := 8, zero := [D.v .nilFunc], offs := [] }),
  (132, { kind := .int .i64, size := 1, bytes := 8, zero := [D.v (.int .i64 0)], offs := [] }),
  (134, { kind := .other, size := 1, bytes := 8, zero := [D.v .nilFunc], offs := [] }),
  (135, { kind := .other, size := 1, bytes := 8, zero := [D.v .nilFunc], offs := [] }),
  (136, { kind := .other, size := 1, bytes := 8, zero := [D.v .nilFunc], offs := [] }),
  (137, { kind := .other, size := 1, bytes := 8, zero := [D.v .nilFunc], offs := [] }),
  (139, { kind := .other, size := 1, bytes := 8, zero := [D.v .nilFunc], offs := [] }),
  (140, { kind := .other, size := 1, bytes := 8, zero := [D.v .nilFunc], offs := [] }),
  (141, { kind := .int .u32, size := 1, bytes := 4, zero := [D.v (.int .u32 0)], offs := [] }),
  (142, { kind := .other, size := 1, bytes := 8, zero := [D.v .nilFunc], offs := [] }),
  (143, { kind := .int .u64, size := 1, bytes := 8, zero := [D.v (.int .u64 0)], offs := [] }),
  (144, { kind := .other, size := 1, bytes := 8, zero := [D.v .nilFunc], offs := [] }),
  (145, { kind := .other, size := 1, bytes := 8, zero := [D.v .nilFunc], offs := [] }),
  (146, { kind := .int .u64, size := 1, bytes := 8, zero := [D.v (.int .u64 0)], offs := [] }),
  (147, { kind := .other, size := 1, bytes := 8, zero := [D.v .nilFunc], offs := [] }),
  (148, { kind := .other, size := 1, bytes := 8, zero := [D.v .nilFunc], offs := [] }),
  (149, { kind := .other, size := 1, bytes := 8, zero := [D.v .nilFunc], offs := [] }),
  (150, { kind := .other, size := 1, bytes := 8, zero := [D.v (.pointer none)], offs := [] }),
  (151, { kind := .other, size := 1, bytes := 8, zero := [D.v .nilFunc], offs := [] }),
  (152, { kind := .other, size := 1, bytes := 8, zero := [D.v (.pointer none)], offs := [] }),
  (154, { kind := .other, size := 1, bytes := 8, zero := [D.v .nilFunc], offs := [] }),
  (155, { kind := .other, size := 1, bytes := 8, zero := [D.v .nilFunc], offs := [] }),
  (161, { kind := .other, size := 1, bytes := 8, zero := [D.v .nilFunc], offs := [] }),
  (165, { kind := .other, size := 1, bytes := 8, zero := [D.v (.pointer none)], offs := [] })]

theorem tyTab_ok : tyTab.all (fun p => tyCheck Tryz.prog p.1 p.2) = true := by kernel_rfl

noncomputable def env : Env := ⟨Tryz.prog, look tyTab, look_ok tyTab tyTab_ok⟩

end Go.Proofs.YtmmjbpgdkokjgaaGreat
end

section
namespace Go.Proofs.YtmmjbpgdkokjgaaGreat
def joinW : List (List Char) → List Char
  | [] => []
  | [w] => w
  | w :: v :: r => w ++ Char.ofNat 32 :: joinW (v :: r)

def noBlank (w : List Char) : Bool := w.all fun c => !(c == Char.ofNat 32)

theorem wordsSigns_word : ∀ (w : List Char), noBlank w = true → wordsSigns w = [w]
  | [], _ => rfl
  | c :: r, h => by
    simp only [noBlank, List.all_cons, Bool.and_eq_true, Bool.not_eq_true', beq_eq_false_iff_ne] at h
    have ih := wordsSigns_word r (by simpa [noBlank] using h.2)
    unfold wordsSigns
    split
    · rename_i heq; cases heq
    · rename_i heq; injection heq with h1 h2; exact absurd h1 h.1
    · rename_i c' r' _ heq
      injection heq with h1 h2
      subst h1; subst h2
      rw [ih]

theorem wordsSigns_cons : ∀ (w r : List Char), noBlank w = true → wordsSigns (w ++ Char.ofNat 32 :: r) = w :: wordsSigns r
  | [], r, _ => rfl
  | c :: w, r, h => by
    simp only [noBlank, List.all_cons, Bool.and_eq_true, Bool.not_eq_true', beq_eq_false_iff_ne] at h
    have ih := wordsSigns_cons w r (by simpa [noBlank] using h.2)
    rw [List.cons_append]
    conv => lhs; unfold wordsSigns
    split
    · rename_i heq; cases heq
    · rename_i heq; injection heq with h1 h2; exact absurd h1 h.1
    · rename_i c' r' _ heq
      injection heq with h1 h2
      subst h1; subst h2
      rw [ih]

theorem wordsSigns_join : ∀ (ws : List (List Char)), ws ≠ [] → ws.all noBlank = true → wordsSigns (joinW ws) = ws
  | [], h, _ => (h rfl).elim
  | [w], _, h => wordsSigns_word w (by simpa using h)
  | w :: v :: r, _, h => by
    simp only [List.all_cons, Bool.and_eq_true] at h
    rw [joinW, wordsSigns_cons w _ h.1, wordsSigns_join (v :: r) (by simp) (by simpa using h.2)]

def headW : List (List Char) := ([[104,97,114,110,101,115,115], [48,56,57,100,97,100,98,99,54,98,97,52,51,101,48,54,55,53,97,51,57,102,52,100,49,102,53,55,54,54,52,53,53,57,55,49,52,99,99,97,55,49,55,50,50,100,50,50,100,53,99,98,100,54,55,50,49,50,54,57,99,48,50,49], [99,117,116], [97,116], [108,111,111,112,46,101,120,97,109,112,108,101,47,103,48,48,49,54,54,47,108,97,119,115,46,70,110,69,120,97,99,116,76,111,119,101,114,84,114,101,101]] : List (List Nat)).map fun w => w.map Char.ofNat

theorem head_eq : Tryz.prog.initOrder = String.ofList (joinW headW) := by kernel_rfl
theorem head_ws : wordsSigns Tryz.prog.initOrder.toList = headW := by
  rw [head_eq, String.toList_ofList]
  exact wordsSigns_join headW (by unfold headW; simp) (by kernel_rfl)
theorem head_lays : Tryz.prog.laysLater = false := by kernel_rfl
theorem head_refl : Tryz.prog.bearsReflect = false := by kernel_rfl
theorem head_door : Tryz.prog.doorRows = [] := by kernel_rfl
theorem head_behind : behindMainWord headW = "cut".toList :: headW.drop 3 := by kernel_rfl
theorem head_strip : stripLifts liftWords ("cut".toList :: headW.drop 3) = ([], "cut".toList :: headW.drop 3) := by kernel_rfl
theorem head_fits : Tryz.prog.doorFits [] = true := by
  unfold Program.doorFits
  rw [head_door]
  kernel_rfl

def enterW (P : Program) : List (List Char) → Bool
  | c :: rest =>
    ((c == "gc".toList || c == "spec".toList) && (rest.isEmpty || rest.head? == some "stop".toList)) ||
    (c == "carried".toList && rest.take 2 == ["gc".toList, "cut".toList] && !P.laysLater && !P.bearsReflect) ||
    ((stripLifts liftWords (c :: rest)).2.head? == some "cut".toList &&
      ((stripLifts liftWords (c :: rest)).1.contains "finals" || !P.laysLater) && ((stripLifts liftWords (c :: rest)).1.contains "reflectrows" || !P.bearsReflect) &&
      ((stripLifts liftWords (c :: rest)).1.contains "reflectrows" || !(stripLifts liftWords (c :: rest)).1.contains "leanrows") &&
      P.doorFits (stripLifts liftWords (c :: rest)).1)
  | [] => false

theorem enterW_eq (P : Program) : P.mayEnter = enterW P (behindMainWord (wordsSigns P.initOrder.toList)) := by
  unfold Program.mayEnter enterW
  rfl

theorem enterW_ok (P : Program) (c : List Char) (rest : List (List Char)) (hs : stripLifts liftWords (c :: rest) = ([], c :: rest)) (hc : c = "cut".toList) (h1 : P.laysLater = false) (h2 : P.bearsReflect = false) (h3 : P.doorFits [] = true) : enterW P (c :: rest) = true := by
  subst hc
  simp only [enterW, hs, h1, h2, h3]
  simp

theorem head_may : Tryz.prog.mayEnter = true := by
  rw [enterW_eq, head_ws, head_behind]
  exact enterW_ok Tryz.prog _ _ head_strip rfl head_lays head_refl head_fits
theorem head_lifts : Tryz.prog.liftsFinal = false := by
  unfold Program.liftsFinal Program.headLifts
  rw [head_ws, head_behind, head_strip]
  kernel_rfl

def makeW (P : Program) : List (List Char) → Option Make
  | c :: rest => if c == "gc".toList || c == "spec".toList then some .whole else if c == "cut".toList || (c == "finals".toList && rest.head? == some "cut".toList) then some .cut else if c == "carried".toList then some .carried else if P.headLifts.isEmpty then none else some (.lifted P.headLifts)
  | [] => none

theorem makeW_eq (P : Program) : P.make = makeW P (behindMainWord (wordsSigns P.initOrder.toList)) := by
  unfold Program.make makeW
  rfl

theorem makeW_ok (P : Program) (rest : List (List Char)) : makeW P ("cut".toList :: rest) = some .cut := by
  simp [makeW]

theorem head_make : Tryz.prog.make = some .cut := by
  rw [makeW_eq, head_ws, head_behind]
  exact makeW_ok Tryz.prog _

end Go.Proofs.YtmmjbpgdkokjgaaGreat
end
