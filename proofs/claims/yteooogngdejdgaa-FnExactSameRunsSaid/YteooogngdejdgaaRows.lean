/-
  No cell of these rows narrows 'for every input' (looked for: loops, veiled, ifaces, maps, wideKeys, modest, calm, conditions, laid).
  DERIVED. THE GIVEN ROWS OF THIS SEAT. 10 by the template 'for every input the law returns true; each argument reads behind the call as it read before'; 0 by the template 'total and deterministic' (their statements: YteooogngdejdgaaTotals.lean).
  GIVEN WITH THE SEED: the statements are not yours to turn. If you find one false, say at which input.
  Laid BY PROGRAM, IN A SANDBOX (cutbox-rows.mjs): the forced cells as the released guide's own fill.sh prints them over the translation bbe9e7388d0e2dfc… (all of the seat's roots in one cut). By AI agents, Wed Nov 11 2026. No macro, syntax, notation, axiom, sorry.
-/
import Derived.Test.YteooogngdejdgaaChecked
import GoSem.Claim
import GoSem.ClaimJoined
import GoSem.ClaimMapViews
import Derived.JoinedTies
import Derived.KernelRfl
namespace Go.Proofs.Yteooogngdejdgaa
/- THE CELL 'sum', in the pinned program and in every row, IS THE sha256 OF THE DUMP (.gsa) THAT YteooogngdejdgaaProg.lean LOADS. Nothing in Lean hashes anything: it is a label: what it is worth is what the hold of that sum in a sandbox is worth. -/
noncomputable def Try.pinned : Pinned := { name := "yteooogngdejdgaa", sum := "bbe9e7388d0e2dfc4a26ad8c94a3acb801558a591361e0470c9b92719e594223", checked := Try.checked }
namespace Rows
def none {H : Type} : Left H := { results := [], args := [] }

/-- 'laws.FnOrders': WHATEVER THE INPUT: true; the input reads as it did. -/
def fnOrdersSpec : ChangeSpec := { name := "fnOrders", fn := fun _ => fun
  | [d] => { results := [.lit (.bool true)], args := [d] }
  | _ => none }
def fnOrdersRow : OpenClaim := { program := "yteooogngdejdgaa", sum := "bbe9e7388d0e2dfc4a26ad8c94a3acb801558a591361e0470c9b92719e594223", func := "loop.example/g00166/laws.FnOrders", spec := "fnOrders", inPlace := ["internal/bytealg.abigen_runtime_cmpstring"], recurses := true, apart := false }
def FnOrdersSaid : Prop := fnOrdersRow.holds Try.pinned (OpenSpec.ofChange fnOrdersSpec)

/-- ITS FALSE NEIGHBOUR: 'it returns false'. Refute it at one input. -/
def fnOrdersWrong : ChangeSpec := { name := "fnOrders", fn := fun _ => fun
  | [d] => { results := [.lit (.bool false)], args := [d] }
  | _ => none }
def FnOrdersWrongFalsely : Prop := fnOrdersRow.holds Try.pinned (OpenSpec.ofChange fnOrdersWrong)

/-- 'laws.FnExactEachOf': WHATEVER THE INPUT: true; the input reads as it did. -/
def fnExactEachOfSpec : ChangeSpec := { name := "fnExactEachOf", fn := fun _ => fun
  | [d] => { results := [.lit (.bool true)], args := [d] }
  | _ => none }
def fnExactEachOfRow : OpenClaim := { program := "yteooogngdejdgaa", sum := "bbe9e7388d0e2dfc4a26ad8c94a3acb801558a591361e0470c9b92719e594223", func := "loop.example/g00166/laws.FnExactEachOf", spec := "fnExactEachOf", recurses := true, apart := false }
def FnExactEachOfSaid : Prop := fnExactEachOfRow.holds Try.pinned (OpenSpec.ofChange fnExactEachOfSpec)

/-- ITS FALSE NEIGHBOUR: 'it returns false'. Refute it at one input. -/
def fnExactEachOfWrong : ChangeSpec := { name := "fnExactEachOf", fn := fun _ => fun
  | [d] => { results := [.lit (.bool false)], args := [d] }
  | _ => none }
def FnExactEachOfWrongFalsely : Prop := fnExactEachOfRow.holds Try.pinned (OpenSpec.ofChange fnExactEachOfWrong)

/-- 'laws.FnExactArrayValue': WHATEVER THE INPUT: true; the input reads as it did. -/
def fnExactArrayValueSpec : ChangeSpec := { name := "fnExactArrayValue", fn := fun _ => fun
  | [d] => { results := [.lit (.bool true)], args := [d] }
  | _ => none }
def fnExactArrayValueRow : OpenClaim := { program := "yteooogngdejdgaa", sum := "bbe9e7388d0e2dfc4a26ad8c94a3acb801558a591361e0470c9b92719e594223", func := "loop.example/g00166/laws.FnExactArrayValue", spec := "fnExactArrayValue", recurses := true, apart := false }
def FnExactArrayValueSaid : Prop := fnExactArrayValueRow.holds Try.pinned (OpenSpec.ofChange fnExactArrayValueSpec)

/-- ITS FALSE NEIGHBOUR: 'it returns false'. Refute it at one input. -/
def fnExactArrayValueWrong : ChangeSpec := { name := "fnExactArrayValue", fn := fun _ => fun
  | [d] => { results := [.lit (.bool false)], args := [d] }
  | _ => none }
def FnExactArrayValueWrongFalsely : Prop := fnExactArrayValueRow.holds Try.pinned (OpenSpec.ofChange fnExactArrayValueWrong)

/-- 'laws.FnExactSameRuns': WHATEVER THE INPUT: true; the input reads as it did. -/
def fnExactSameRunsSpec : ChangeSpec := { name := "fnExactSameRuns", fn := fun _ => fun
  | [d1, d2] => { results := [.lit (.bool true)], args := [d1, d2] }
  | _ => none }
def fnExactSameRunsRow : OpenClaim := { program := "yteooogngdejdgaa", sum := "bbe9e7388d0e2dfc4a26ad8c94a3acb801558a591361e0470c9b92719e594223", func := "loop.example/g00166/laws.FnExactSameRuns", spec := "fnExactSameRuns", inPlace := ["internal/bytealg.abigen_runtime_cmpstring"], unfollowed := true, recurses := true, apart := false }
def FnExactSameRunsSaid : Prop := fnExactSameRunsRow.holds Try.pinned (OpenSpec.ofChange fnExactSameRunsSpec)

/-- ITS FALSE NEIGHBOUR: 'it returns false'. Refute it at one input. -/
def fnExactSameRunsWrong : ChangeSpec := { name := "fnExactSameRuns", fn := fun _ => fun
  | [d1, d2] => { results := [.lit (.bool false)], args := [d1, d2] }
  | _ => none }
def FnExactSameRunsWrongFalsely : Prop := fnExactSameRunsRow.holds Try.pinned (OpenSpec.ofChange fnExactSameRunsWrong)

/-- 'laws.FnExactScopeFault': WHATEVER THE INPUT: true; the input reads as it did. -/
def fnExactScopeFaultSpec : ChangeSpec := { name := "fnExactScopeFault", fn := fun _ => fun
  | [d] => { results := [.lit (.bool true)], args := [d] }
  | _ => none }
def fnExactScopeFaultRow : OpenClaim := { program := "yteooogngdejdgaa", sum := "bbe9e7388d0e2dfc4a26ad8c94a3acb801558a591361e0470c9b92719e594223", func := "loop.example/g00166/laws.FnExactScopeFault", spec := "fnExactScopeFault", unfollowed := true, recurses := true, apart := false }
def FnExactScopeFaultSaid : Prop := fnExactScopeFaultRow.holds Try.pinned (OpenSpec.ofChange fnExactScopeFaultSpec)

/-- ITS FALSE NEIGHBOUR: 'it returns false'. Refute it at one input. -/
def fnExactScopeFaultWrong : ChangeSpec := { name := "fnExactScopeFault", fn := fun _ => fun
  | [d] => { results := [.lit (.bool false)], args := [d] }
  | _ => none }
def FnExactScopeFaultWrongFalsely : Prop := fnExactScopeFaultRow.holds Try.pinned (OpenSpec.ofChange fnExactScopeFaultWrong)

/-- 'laws.FnExactSizeOf': WHATEVER THE INPUT: true; the input reads as it did. -/
def fnExactSizeOfSpec : ChangeSpec := { name := "fnExactSizeOf", fn := fun _ => fun
  | [d] => { results := [.lit (.bool true)], args := [d] }
  | _ => none }
def fnExactSizeOfRow : OpenClaim := { program := "yteooogngdejdgaa", sum := "bbe9e7388d0e2dfc4a26ad8c94a3acb801558a591361e0470c9b92719e594223", func := "loop.example/g00166/laws.FnExactSizeOf", spec := "fnExactSizeOf", unfollowed := true, recurses := true, apart := false }
def FnExactSizeOfSaid : Prop := fnExactSizeOfRow.holds Try.pinned (OpenSpec.ofChange fnExactSizeOfSpec)

/-- ITS FALSE NEIGHBOUR: 'it returns false'. Refute it at one input. -/
def fnExactSizeOfWrong : ChangeSpec := { name := "fnExactSizeOf", fn := fun _ => fun
  | [d] => { results := [.lit (.bool false)], args := [d] }
  | _ => none }
def FnExactSizeOfWrongFalsely : Prop := fnExactSizeOfRow.holds Try.pinned (OpenSpec.ofChange fnExactSizeOfWrong)

/-- 'laws.FnExactSlotsOf': WHATEVER THE INPUT: true; the input reads as it did. -/
def fnExactSlotsOfSpec : ChangeSpec := { name := "fnExactSlotsOf", fn := fun _ => fun
  | [d] => { results := [.lit (.bool true)], args := [d] }
  | _ => none }
def fnExactSlotsOfRow : OpenClaim := { program := "yteooogngdejdgaa", sum := "bbe9e7388d0e2dfc4a26ad8c94a3acb801558a591361e0470c9b92719e594223", func := "loop.example/g00166/laws.FnExactSlotsOf", spec := "fnExactSlotsOf", unfollowed := true, recurses := true, apart := false }
def FnExactSlotsOfSaid : Prop := fnExactSlotsOfRow.holds Try.pinned (OpenSpec.ofChange fnExactSlotsOfSpec)

/-- ITS FALSE NEIGHBOUR: 'it returns false'. Refute it at one input. -/
def fnExactSlotsOfWrong : ChangeSpec := { name := "fnExactSlotsOf", fn := fun _ => fun
  | [d] => { results := [.lit (.bool false)], args := [d] }
  | _ => none }
def FnExactSlotsOfWrongFalsely : Prop := fnExactSlotsOfRow.holds Try.pinned (OpenSpec.ofChange fnExactSlotsOfWrong)

/-- 'laws.FnExactKindsCore': WHATEVER THE INPUT: true; the input reads as it did. -/
def fnExactKindsCoreSpec : ChangeSpec := { name := "fnExactKindsCore", fn := fun _ => fun
  | [d] => { results := [.lit (.bool true)], args := [d] }
  | _ => none }
def fnExactKindsCoreRow : OpenClaim := { program := "yteooogngdejdgaa", sum := "bbe9e7388d0e2dfc4a26ad8c94a3acb801558a591361e0470c9b92719e594223", func := "loop.example/g00166/laws.FnExactKindsCore", spec := "fnExactKindsCore", unfollowed := true, recurses := true, apart := false }
def FnExactKindsCoreSaid : Prop := fnExactKindsCoreRow.holds Try.pinned (OpenSpec.ofChange fnExactKindsCoreSpec)

/-- ITS FALSE NEIGHBOUR: 'it returns false'. Refute it at one input. -/
def fnExactKindsCoreWrong : ChangeSpec := { name := "fnExactKindsCore", fn := fun _ => fun
  | [d] => { results := [.lit (.bool false)], args := [d] }
  | _ => none }
def FnExactKindsCoreWrongFalsely : Prop := fnExactKindsCoreRow.holds Try.pinned (OpenSpec.ofChange fnExactKindsCoreWrong)

/-- 'laws.FnExactSureCore': WHATEVER THE INPUT: true; the input reads as it did. -/
def fnExactSureCoreSpec : ChangeSpec := { name := "fnExactSureCore", fn := fun _ => fun
  | [d] => { results := [.lit (.bool true)], args := [d] }
  | _ => none }
def fnExactSureCoreRow : OpenClaim := { program := "yteooogngdejdgaa", sum := "bbe9e7388d0e2dfc4a26ad8c94a3acb801558a591361e0470c9b92719e594223", func := "loop.example/g00166/laws.FnExactSureCore", spec := "fnExactSureCore", unfollowed := true, recurses := true, apart := false }
def FnExactSureCoreSaid : Prop := fnExactSureCoreRow.holds Try.pinned (OpenSpec.ofChange fnExactSureCoreSpec)

/-- ITS FALSE NEIGHBOUR: 'it returns false'. Refute it at one input. -/
def fnExactSureCoreWrong : ChangeSpec := { name := "fnExactSureCore", fn := fun _ => fun
  | [d] => { results := [.lit (.bool false)], args := [d] }
  | _ => none }
def FnExactSureCoreWrongFalsely : Prop := fnExactSureCoreRow.holds Try.pinned (OpenSpec.ofChange fnExactSureCoreWrong)

/-- 'laws.FnExactCountCore': WHATEVER THE INPUT: true; the input reads as it did. -/
def fnExactCountCoreSpec : ChangeSpec := { name := "fnExactCountCore", fn := fun _ => fun
  | [d] => { results := [.lit (.bool true)], args := [d] }
  | _ => none }
def fnExactCountCoreRow : OpenClaim := { program := "yteooogngdejdgaa", sum := "bbe9e7388d0e2dfc4a26ad8c94a3acb801558a591361e0470c9b92719e594223", func := "loop.example/g00166/laws.FnExactCountCore", spec := "fnExactCountCore", unfollowed := true, recurses := true, apart := false }
def FnExactCountCoreSaid : Prop := fnExactCountCoreRow.holds Try.pinned (OpenSpec.ofChange fnExactCountCoreSpec)

/-- ITS FALSE NEIGHBOUR: 'it returns false'. Refute it at one input. -/
def fnExactCountCoreWrong : ChangeSpec := { name := "fnExactCountCore", fn := fun _ => fun
  | [d] => { results := [.lit (.bool false)], args := [d] }
  | _ => none }
def FnExactCountCoreWrongFalsely : Prop := fnExactCountCoreRow.holds Try.pinned (OpenSpec.ofChange fnExactCountCoreWrong)

/- THE SECOND FORM. 'bulk': how many values and letters a reading holds, each counted each time it is reached (what is shared counts as often as it is met; a slice's spare places count too). A statement '..UptoSaid' is the law's where the arguments, and the package variables that the reading takes, are together of bulk at most 1048576: NARROWER than '..Said'. Prove '..Said' where nothing that the law and all that it calls make is longer than what came in: it says more and counts as full. Else prove '..UptoSaid'. A law counts once. -/
mutual
def uptoBulk {H : Type} : DataW H → Nat
  | .lit (.string bytes) => bytes.length + 1
  | .lit _ => 1
  | .nil => 1
  | .ptr d => uptoBulk d + 1
  | .slice elems spare => uptoBulkAll elems + uptoBulkAll spare + 1
  | .agg parts => uptoBulkAll parts + 1
  | .iface _ d => uptoBulk d + 1
  | .map entries => uptoBulkEntries entries + 1
  | .held _ => 1
def uptoBulkAll {H : Type} : List (DataW H) → Nat
  | [] => 0
  | d :: r => uptoBulk d + uptoBulkAll r
def uptoBulkEntries {H : Type} : List (Lit × DataW H) → Nat
  | [] => 0
  | x :: r => uptoBulkEntry x + uptoBulkEntries r
def uptoBulkEntry {H : Type} : Lit × DataW H → Nat
  | (.string bytes, d) => bytes.length + uptoBulk d + 1
  | (_, d) => uptoBulk d + 1
 end
def uptoSmall : (H : Type) → List (DataW H) → Bool := fun _ ds => decide (uptoBulkAll ds ≤ 1048576)
def OpenSpec.upto (s : _root_.Go.ChangeSpec) : _root_.Go.OpenSpec := { _root_.Go.OpenSpec.ofChange s with cond := some uptoSmall }

/-- 'laws.FnOrders', WHERE WHAT IT READS IS OF BULK AT MOST 1048576: true; the input reads as it did. -/
def fnOrdersUptoRow : OpenClaim := { program := "yteooogngdejdgaa", sum := "bbe9e7388d0e2dfc4a26ad8c94a3acb801558a591361e0470c9b92719e594223", func := "loop.example/g00166/laws.FnOrders", spec := "fnOrders", inPlace := ["internal/bytealg.abigen_runtime_cmpstring"], recurses := true, apart := false, narrowed := true }
def FnOrdersUptoSaid : Prop := fnOrdersUptoRow.holds Try.pinned (OpenSpec.upto fnOrdersSpec)

/-- 'laws.FnExactEachOf', WHERE WHAT IT READS IS OF BULK AT MOST 1048576: true; the input reads as it did. -/
def fnExactEachOfUptoRow : OpenClaim := { program := "yteooogngdejdgaa", sum := "bbe9e7388d0e2dfc4a26ad8c94a3acb801558a591361e0470c9b92719e594223", func := "loop.example/g00166/laws.FnExactEachOf", spec := "fnExactEachOf", recurses := true, apart := false, narrowed := true }
def FnExactEachOfUptoSaid : Prop := fnExactEachOfUptoRow.holds Try.pinned (OpenSpec.upto fnExactEachOfSpec)

/-- 'laws.FnExactArrayValue', WHERE WHAT IT READS IS OF BULK AT MOST 1048576: true; the input reads as it did. -/
def fnExactArrayValueUptoRow : OpenClaim := { program := "yteooogngdejdgaa", sum := "bbe9e7388d0e2dfc4a26ad8c94a3acb801558a591361e0470c9b92719e594223", func := "loop.example/g00166/laws.FnExactArrayValue", spec := "fnExactArrayValue", recurses := true, apart := false, narrowed := true }
def FnExactArrayValueUptoSaid : Prop := fnExactArrayValueUptoRow.holds Try.pinned (OpenSpec.upto fnExactArrayValueSpec)

/-- 'laws.FnExactSameRuns', WHERE WHAT IT READS IS OF BULK AT MOST 1048576: true; the input reads as it did. -/
def fnExactSameRunsUptoRow : OpenClaim := { program := "yteooogngdejdgaa", sum := "bbe9e7388d0e2dfc4a26ad8c94a3acb801558a591361e0470c9b92719e594223", func := "loop.example/g00166/laws.FnExactSameRuns", spec := "fnExactSameRuns", inPlace := ["internal/bytealg.abigen_runtime_cmpstring"], unfollowed := true, recurses := true, apart := false, narrowed := true }
def FnExactSameRunsUptoSaid : Prop := fnExactSameRunsUptoRow.holds Try.pinned (OpenSpec.upto fnExactSameRunsSpec)

/-- 'laws.FnExactScopeFault', WHERE WHAT IT READS IS OF BULK AT MOST 1048576: true; the input reads as it did. -/
def fnExactScopeFaultUptoRow : OpenClaim := { program := "yteooogngdejdgaa", sum := "bbe9e7388d0e2dfc4a26ad8c94a3acb801558a591361e0470c9b92719e594223", func := "loop.example/g00166/laws.FnExactScopeFault", spec := "fnExactScopeFault", unfollowed := true, recurses := true, apart := false, narrowed := true }
def FnExactScopeFaultUptoSaid : Prop := fnExactScopeFaultUptoRow.holds Try.pinned (OpenSpec.upto fnExactScopeFaultSpec)

/-- 'laws.FnExactSizeOf', WHERE WHAT IT READS IS OF BULK AT MOST 1048576: true; the input reads as it did. -/
def fnExactSizeOfUptoRow : OpenClaim := { program := "yteooogngdejdgaa", sum := "bbe9e7388d0e2dfc4a26ad8c94a3acb801558a591361e0470c9b92719e594223", func := "loop.example/g00166/laws.FnExactSizeOf", spec := "fnExactSizeOf", unfollowed := true, recurses := true, apart := false, narrowed := true }
def FnExactSizeOfUptoSaid : Prop := fnExactSizeOfUptoRow.holds Try.pinned (OpenSpec.upto fnExactSizeOfSpec)

/-- 'laws.FnExactSlotsOf', WHERE WHAT IT READS IS OF BULK AT MOST 1048576: true; the input reads as it did. -/
def fnExactSlotsOfUptoRow : OpenClaim := { program := "yteooogngdejdgaa", sum := "bbe9e7388d0e2dfc4a26ad8c94a3acb801558a591361e0470c9b92719e594223", func := "loop.example/g00166/laws.FnExactSlotsOf", spec := "fnExactSlotsOf", unfollowed := true, recurses := true, apart := false, narrowed := true }
def FnExactSlotsOfUptoSaid : Prop := fnExactSlotsOfUptoRow.holds Try.pinned (OpenSpec.upto fnExactSlotsOfSpec)

/-- 'laws.FnExactKindsCore', WHERE WHAT IT READS IS OF BULK AT MOST 1048576: true; the input reads as it did. -/
def fnExactKindsCoreUptoRow : OpenClaim := { program := "yteooogngdejdgaa", sum := "bbe9e7388d0e2dfc4a26ad8c94a3acb801558a591361e0470c9b92719e594223", func := "loop.example/g00166/laws.FnExactKindsCore", spec := "fnExactKindsCore", unfollowed := true, recurses := true, apart := false, narrowed := true }
def FnExactKindsCoreUptoSaid : Prop := fnExactKindsCoreUptoRow.holds Try.pinned (OpenSpec.upto fnExactKindsCoreSpec)

/-- 'laws.FnExactSureCore', WHERE WHAT IT READS IS OF BULK AT MOST 1048576: true; the input reads as it did. -/
def fnExactSureCoreUptoRow : OpenClaim := { program := "yteooogngdejdgaa", sum := "bbe9e7388d0e2dfc4a26ad8c94a3acb801558a591361e0470c9b92719e594223", func := "loop.example/g00166/laws.FnExactSureCore", spec := "fnExactSureCore", unfollowed := true, recurses := true, apart := false, narrowed := true }
def FnExactSureCoreUptoSaid : Prop := fnExactSureCoreUptoRow.holds Try.pinned (OpenSpec.upto fnExactSureCoreSpec)

/-- 'laws.FnExactCountCore', WHERE WHAT IT READS IS OF BULK AT MOST 1048576: true; the input reads as it did. -/
def fnExactCountCoreUptoRow : OpenClaim := { program := "yteooogngdejdgaa", sum := "bbe9e7388d0e2dfc4a26ad8c94a3acb801558a591361e0470c9b92719e594223", func := "loop.example/g00166/laws.FnExactCountCore", spec := "fnExactCountCore", unfollowed := true, recurses := true, apart := false, narrowed := true }
def FnExactCountCoreUptoSaid : Prop := fnExactCountCoreUptoRow.holds Try.pinned (OpenSpec.upto fnExactCountCoreSpec)

end Rows
end Go.Proofs.Yteooogngdejdgaa
