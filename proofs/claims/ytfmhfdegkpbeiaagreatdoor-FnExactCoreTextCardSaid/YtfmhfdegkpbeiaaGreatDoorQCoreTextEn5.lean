/-
  Texts of this claim in one. Conditions: none.
-/
import Derived.Test.YtfmhfdegkpbeiaaGreatDoorQCoreTextBd2
import Derived.Test.YtfmhfdegkpbeiaaGreatDoorQCoreTextTb2
import Derived.Test.YtfmhfdegkpbeiaaGreatDoorQCoreTextLs
import Derived.Test.YtfmhfdegkpbeiaaGreatDoorQCoreTextEn4
import Derived.Test.YtfmhfdegkpbeiaaGreatDoorQCoreTextPgF
section
set_option linter.unusedVariables false
set_option linter.unusedSimpArgs false
set_option maxRecDepth 100000
namespace Go.Proofs.YtfmhfdegkpbeiaaGreatDoor
open Go.RowKit

abbrev bdO (s : ByteArray) : Ob := .x (bdX 114 5 s) 0

theorem WriteString_fn (s x : ByteArray) (h0 : 0 < x.size) (hlen : s.size + x.size ≤ 140737488355328) : FunQ env.P 73 [.lp 0 0, .d (dS x)] [bdO s] (just (.tup [.d (dI x.size), .d (.v .nilIface)]) [bdO (s ++ x)]) :=
  WriteString_at (ρ := lays156_ren) { lays156 with } lays156_X (entersT Tryz.func73 (c := _) rfl (by kernel_rfl)) s x h0 hlen

theorem String_fn (s : ByteArray) : FunQ env.P 74 [.lp 0 0] [bdO s] (just (.d (dS s)) [.dead]) :=
  String_at (ρ := lays156_ren) { lays156 with } lays156_X (entersT Tryz.func74 (c := _) rfl (by kernel_rfl)) s

end Go.Proofs.YtfmhfdegkpbeiaaGreatDoor
end

section
set_option linter.unusedVariables false
set_option linter.unusedSimpArgs false
set_option maxRecDepth 100000
namespace Go.Proofs.YtfmhfdegkpbeiaaGreatDoor
open Go.RowKit

/-! ### many -/

abbrev nlS : ByteArray := ⟨#[10]⟩
end Go.Proofs.YtfmhfdegkpbeiaaGreatDoor
end
