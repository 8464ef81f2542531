/-
  No cell of these rows narrows 'for every input' (looked for: loops, veiled, ifaces, maps, wideKeys, modest, calm, conditions, laid).
  DERIVED. THE GIVEN ROWS OF THIS SEAT. 3 by the template 'for every input the law returns true; each argument reads behind the call as it read before'; 0 by the template 'total and deterministic' (their statements: YtojifjbbjnpgbaaGreatTotals.lean).
  GIVEN WITH THE SEED: the statements are not yours to turn. If you find one false, say at which input.
  Laid BY PROGRAM, IN A SANDBOX (cutbox-rows.mjs): the forced cells as the released guide's own fill.sh prints them over the translation 65bb017c22ab4b44… (all of the seat's roots in one cut). By AI agents, Wed Nov 11 2026. No macro, syntax, notation, axiom, sorry.
-/
import Derived.Test.YtojifjbbjnpgbaaGreatChecked
import GoSem.Claim
import GoSem.ClaimJoined
import GoSem.ClaimMapViews
import Derived.JoinedTies
import Derived.KernelRfl
namespace Go.Proofs.YtojifjbbjnpgbaaGreat
/- THE CELL 'sum', in the pinned program and in every row, IS THE sha256 OF THE DUMP (.gsa) THAT YtojifjbbjnpgbaaGreatProg.lean LOADS. Nothing in Lean hashes anything: it is a label: what it is worth is what the hold of that sum in a sandbox is worth. -/
noncomputable def Tryz.pinned : Pinned := { name := "ytojifjbbjnpgbaagreat", sum := "65bb017c22ab4b4496d0fd175dcd6588f01d762b09b25b1d1d5141dd4cbaa1ad", checked := Tryz.checked }
namespace Rows
def none {H : Type} : Left H := { results := [], args := [] }

/-- 'laws.FnExactDeadCore': WHATEVER THE INPUT: true; the input reads as it did. -/
def fnExactDeadCoreSpec : ChangeSpec := { name := "fnExactDeadCore", fn := fun _ => fun
  | [d] => { results := [.lit (.bool true)], args := [d] }
  | _ => none }
def fnExactDeadCoreRow : OpenClaim := { program := "ytojifjbbjnpgbaagreat", sum := "65bb017c22ab4b4496d0fd175dcd6588f01d762b09b25b1d1d5141dd4cbaa1ad", func := "loop.example/g00166/laws.FnExactDeadCore", spec := "fnExactDeadCore", unfollowed := true, recurses := true, apart := false }
def FnExactDeadCoreSaid : Prop := fnExactDeadCoreRow.holds Tryz.pinned (OpenSpec.ofChange fnExactDeadCoreSpec)

/-- ITS FALSE NEIGHBOUR: 'it returns false'. Refute it at one input. -/
def fnExactDeadCoreWrong : ChangeSpec := { name := "fnExactDeadCore", fn := fun _ => fun
  | [d] => { results := [.lit (.bool false)], args := [d] }
  | _ => none }
def FnExactDeadCoreWrongFalsely : Prop := fnExactDeadCoreRow.holds Tryz.pinned (OpenSpec.ofChange fnExactDeadCoreWrong)

/-- 'laws.FnExactLowerTree': WHATEVER THE INPUT: true; the input reads as it did. -/
def fnExactLowerTreeSpec : ChangeSpec := { name := "fnExactLowerTree", fn := fun _ => fun
  | [d] => { results := [.lit (.bool true)], args := [d] }
  | _ => none }
def fnExactLowerTreeRow : OpenClaim := { program := "ytojifjbbjnpgbaagreat", sum := "65bb017c22ab4b4496d0fd175dcd6588f01d762b09b25b1d1d5141dd4cbaa1ad", func := "loop.example/g00166/laws.FnExactLowerTree", spec := "fnExactLowerTree", unfollowed := true, recurses := true, apart := false }
def FnExactLowerTreeSaid : Prop := fnExactLowerTreeRow.holds Tryz.pinned (OpenSpec.ofChange fnExactLowerTreeSpec)

/-- ITS FALSE NEIGHBOUR: 'it returns false'. Refute it at one input. -/
def fnExactLowerTreeWrong : ChangeSpec := { name := "fnExactLowerTree", fn := fun _ => fun
  | [d] => { results := [.lit (.bool false)], args := [d] }
  | _ => none }
def FnExactLowerTreeWrongFalsely : Prop := fnExactLowerTreeRow.holds Tryz.pinned (OpenSpec.ofChange fnExactLowerTreeWrong)

/-- 'laws.FnExactTryCore': WHATEVER THE INPUT: true; the input reads as it did. -/
def fnExactTryCoreSpec : ChangeSpec := { name := "fnExactTryCore", fn := fun _ => fun
  | [d] => { results := [.lit (.bool true)], args := [d] }
  | _ => none }
def fnExactTryCoreRow : OpenClaim := { program := "ytojifjbbjnpgbaagreat", sum := "65bb017c22ab4b4496d0fd175dcd6588f01d762b09b25b1d1d5141dd4cbaa1ad", func := "loop.example/g00166/laws.FnExactTryCore", spec := "fnExactTryCore", unfollowed := true, recurses := true, apart := false }
def FnExactTryCoreSaid : Prop := fnExactTryCoreRow.holds Tryz.pinned (OpenSpec.ofChange fnExactTryCoreSpec)

/-- ITS FALSE NEIGHBOUR: 'it returns false'. Refute it at one input. -/
def fnExactTryCoreWrong : ChangeSpec := { name := "fnExactTryCore", fn := fun _ => fun
  | [d] => { results := [.lit (.bool false)], args := [d] }
  | _ => none }
def FnExactTryCoreWrongFalsely : Prop := fnExactTryCoreRow.holds Tryz.pinned (OpenSpec.ofChange fnExactTryCoreWrong)

/- THE SECOND FORM. 'bulk': how many values and letters a reading holds, each counted each time it is reached (what is shared counts as often as it is met; a slice's spare places count too). A statement '..UptoSaid' is the law's where the arguments, and the package variables that the reading takes, are together of bulk at most 1048576: NARROWER than '..Said'. Prove '..Said' where nothing that the law and all that it calls make is longer than what came in: it says more and counts as full. Else prove '..UptoSaid'. A law counts once. -/
mutual
def uptoBulk {H : Type} : DataW H → Nat
  | .lit (.string bytes) => bytes.length + 1
  | .lit _ => 1
  | .nil => 1
  | .ptr d => uptoBulk d + 1
  | .slice elems spare => uptoBulkAll elems + uptoBulkAll spare + 1
  | .agg parts => uptoBulkAll parts + 1
  | .iface _ d => uptoBulk d + 1
  | .map entries => uptoBulkEntries entries + 1
  | .held _ => 1
def uptoBulkAll {H : Type} : List (DataW H) → Nat
  | [] => 0
  | d :: r => uptoBulk d + uptoBulkAll r
def uptoBulkEntries {H : Type} : List (Lit × DataW H) → Nat
  | [] => 0
  | x :: r => uptoBulkEntry x + uptoBulkEntries r
def uptoBulkEntry {H : Type} : Lit × DataW H → Nat
  | (.string bytes, d) => bytes.length + uptoBulk d + 1
  | (_, d) => uptoBulk d + 1
 end
def uptoSmall : (H : Type) → List (DataW H) → Bool := fun _ ds => decide (uptoBulkAll ds ≤ 1048576)
def OpenSpec.upto (s : _root_.Go.ChangeSpec) : _root_.Go.OpenSpec := { _root_.Go.OpenSpec.ofChange s with cond := some uptoSmall }

/-- 'laws.FnExactDeadCore', WHERE WHAT IT READS IS OF BULK AT MOST 1048576: true; the input reads as it did. -/
def fnExactDeadCoreUptoRow : OpenClaim := { program := "ytojifjbbjnpgbaagreat", sum := "65bb017c22ab4b4496d0fd175dcd6588f01d762b09b25b1d1d5141dd4cbaa1ad", func := "loop.example/g00166/laws.FnExactDeadCore", spec := "fnExactDeadCore", unfollowed := true, recurses := true, apart := false, narrowed := true }
def FnExactDeadCoreUptoSaid : Prop := fnExactDeadCoreUptoRow.holds Tryz.pinned (OpenSpec.upto fnExactDeadCoreSpec)

/-- 'laws.FnExactLowerTree', WHERE WHAT IT READS IS OF BULK AT MOST 1048576: true; the input reads as it did. -/
def fnExactLowerTreeUptoRow : OpenClaim := { program := "ytojifjbbjnpgbaagreat", sum := "65bb017c22ab4b4496d0fd175dcd6588f01d762b09b25b1d1d5141dd4cbaa1ad", func := "loop.example/g00166/laws.FnExactLowerTree", spec := "fnExactLowerTree", unfollowed := true, recurses := true, apart := false, narrowed := true }
def FnExactLowerTreeUptoSaid : Prop := fnExactLowerTreeUptoRow.holds Tryz.pinned (OpenSpec.upto fnExactLowerTreeSpec)

/-- 'laws.FnExactTryCore', WHERE WHAT IT READS IS OF BULK AT MOST 1048576: true; the input reads as it did. -/
def fnExactTryCoreUptoRow : OpenClaim := { program := "ytojifjbbjnpgbaagreat", sum := "65bb017c22ab4b4496d0fd175dcd6588f01d762b09b25b1d1d5141dd4cbaa1ad", func := "loop.example/g00166/laws.FnExactTryCore", spec := "fnExactTryCore", unfollowed := true, recurses := true, apart := false, narrowed := true }
def FnExactTryCoreUptoSaid : Prop := fnExactTryCoreUptoRow.holds Tryz.pinned (OpenSpec.upto fnExactTryCoreSpec)

end Rows
end Go.Proofs.YtojifjbbjnpgbaaGreat
