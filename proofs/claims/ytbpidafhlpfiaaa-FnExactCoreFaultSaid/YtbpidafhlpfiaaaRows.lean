/-
  No cell of these rows narrows 'for every input' (looked for: loops, veiled, ifaces, maps, wideKeys, modest, calm, conditions, laid).
  DERIVED. THE GIVEN ROWS OF THIS SEAT. 18 by the template 'for every input the law returns true; each argument reads behind the call as it read before'; 0 by the template 'total and deterministic' (their statements: YtbpidafhlpfiaaaTotals.lean).
  GIVEN WITH THE SEED: the statements are not yours to turn. If you find one false, say at which input.
  Laid BY PROGRAM, IN A SANDBOX (cutbox-rows.mjs): the forced cells as the released guide's own fill.sh prints them over the translation a5a401c7ef3fa364… (all of the seat's roots in one cut). By AI agents, Wed Nov 11 2026. No macro, syntax, notation, axiom, sorry.
-/
import Derived.Test.YtbpidafhlpfiaaaChecked
import GoSem.Claim
import GoSem.ClaimJoined
import GoSem.ClaimMapViews
import Derived.JoinedTies
import Derived.KernelRfl
namespace Go.Proofs.Ytbpidafhlpfiaaa
/- THE CELL 'sum', in the pinned program and in every row, IS THE sha256 OF THE DUMP (.gsa) THAT YtbpidafhlpfiaaaProg.lean LOADS. Nothing in Lean hashes anything: it is a label: what it is worth is what the hold of that sum in a sandbox is worth. -/
noncomputable def Try.pinned : Pinned := { name := "ytbpidafhlpfiaaa", sum := "a5a401c7ef3fa36431ec9bfe7c0ee33a8bcf2f8d6f176aa0219d91424ce3cd4f", checked := Try.checked }
namespace Rows
def none {H : Type} : Left H := { results := [], args := [] }

/-- 'laws.FnOrders': WHATEVER THE INPUT: true; the input reads as it did. -/
def fnOrdersSpec : ChangeSpec := { name := "fnOrders", fn := fun _ => fun
  | [d] => { results := [.lit (.bool true)], args := [d] }
  | _ => none }
def fnOrdersRow : OpenClaim := { program := "ytbpidafhlpfiaaa", sum := "a5a401c7ef3fa36431ec9bfe7c0ee33a8bcf2f8d6f176aa0219d91424ce3cd4f", func := "loop.example/g00166/laws.FnOrders", spec := "fnOrders", inPlace := ["internal/bytealg.abigen_runtime_cmpstring"], recurses := true, apart := false }
def FnOrdersSaid : Prop := fnOrdersRow.holds Try.pinned (OpenSpec.ofChange fnOrdersSpec)

/-- ITS FALSE NEIGHBOUR: 'it returns false'. Refute it at one input. -/
def fnOrdersWrong : ChangeSpec := { name := "fnOrders", fn := fun _ => fun
  | [d] => { results := [.lit (.bool false)], args := [d] }
  | _ => none }
def FnOrdersWrongFalsely : Prop := fnOrdersRow.holds Try.pinned (OpenSpec.ofChange fnOrdersWrong)

/-- 'laws.FnExactEachOf': WHATEVER THE INPUT: true; the input reads as it did. -/
def fnExactEachOfSpec : ChangeSpec := { name := "fnExactEachOf", fn := fun _ => fun
  | [d] => { results := [.lit (.bool true)], args := [d] }
  | _ => none }
def fnExactEachOfRow : OpenClaim := { program := "ytbpidafhlpfiaaa", sum := "a5a401c7ef3fa36431ec9bfe7c0ee33a8bcf2f8d6f176aa0219d91424ce3cd4f", func := "loop.example/g00166/laws.FnExactEachOf", spec := "fnExactEachOf", recurses := true, apart := false }
def FnExactEachOfSaid : Prop := fnExactEachOfRow.holds Try.pinned (OpenSpec.ofChange fnExactEachOfSpec)

/-- ITS FALSE NEIGHBOUR: 'it returns false'. Refute it at one input. -/
def fnExactEachOfWrong : ChangeSpec := { name := "fnExactEachOf", fn := fun _ => fun
  | [d] => { results := [.lit (.bool false)], args := [d] }
  | _ => none }
def FnExactEachOfWrongFalsely : Prop := fnExactEachOfRow.holds Try.pinned (OpenSpec.ofChange fnExactEachOfWrong)

/-- 'laws.FnExactArrayValue': WHATEVER THE INPUT: true; the input reads as it did. -/
def fnExactArrayValueSpec : ChangeSpec := { name := "fnExactArrayValue", fn := fun _ => fun
  | [d] => { results := [.lit (.bool true)], args := [d] }
  | _ => none }
def fnExactArrayValueRow : OpenClaim := { program := "ytbpidafhlpfiaaa", sum := "a5a401c7ef3fa36431ec9bfe7c0ee33a8bcf2f8d6f176aa0219d91424ce3cd4f", func := "loop.example/g00166/laws.FnExactArrayValue", spec := "fnExactArrayValue", recurses := true, apart := false }
def FnExactArrayValueSaid : Prop := fnExactArrayValueRow.holds Try.pinned (OpenSpec.ofChange fnExactArrayValueSpec)

/-- ITS FALSE NEIGHBOUR: 'it returns false'. Refute it at one input. -/
def fnExactArrayValueWrong : ChangeSpec := { name := "fnExactArrayValue", fn := fun _ => fun
  | [d] => { results := [.lit (.bool false)], args := [d] }
  | _ => none }
def FnExactArrayValueWrongFalsely : Prop := fnExactArrayValueRow.holds Try.pinned (OpenSpec.ofChange fnExactArrayValueWrong)

/-- 'laws.FnExactTreeFault': WHATEVER THE INPUT: true; the input reads as it did. -/
def fnExactTreeFaultSpec : ChangeSpec := { name := "fnExactTreeFault", fn := fun _ => fun
  | [d] => { results := [.lit (.bool true)], args := [d] }
  | _ => none }
def fnExactTreeFaultRow : OpenClaim := { program := "ytbpidafhlpfiaaa", sum := "a5a401c7ef3fa36431ec9bfe7c0ee33a8bcf2f8d6f176aa0219d91424ce3cd4f", func := "loop.example/g00166/laws.FnExactTreeFault", spec := "fnExactTreeFault", unfollowed := true, recurses := true, apart := false }
def FnExactTreeFaultSaid : Prop := fnExactTreeFaultRow.holds Try.pinned (OpenSpec.ofChange fnExactTreeFaultSpec)

/-- ITS FALSE NEIGHBOUR: 'it returns false'. Refute it at one input. -/
def fnExactTreeFaultWrong : ChangeSpec := { name := "fnExactTreeFault", fn := fun _ => fun
  | [d] => { results := [.lit (.bool false)], args := [d] }
  | _ => none }
def FnExactTreeFaultWrongFalsely : Prop := fnExactTreeFaultRow.holds Try.pinned (OpenSpec.ofChange fnExactTreeFaultWrong)

/-- 'laws.FnExactUsesOf': WHATEVER THE INPUT: true; the input reads as it did. -/
def fnExactUsesOfSpec : ChangeSpec := { name := "fnExactUsesOf", fn := fun _ => fun
  | [d1, d2] => { results := [.lit (.bool true)], args := [d1, d2] }
  | _ => none }
def fnExactUsesOfRow : OpenClaim := { program := "ytbpidafhlpfiaaa", sum := "a5a401c7ef3fa36431ec9bfe7c0ee33a8bcf2f8d6f176aa0219d91424ce3cd4f", func := "loop.example/g00166/laws.FnExactUsesOf", spec := "fnExactUsesOf", unfollowed := true, recurses := true, apart := false }
def FnExactUsesOfSaid : Prop := fnExactUsesOfRow.holds Try.pinned (OpenSpec.ofChange fnExactUsesOfSpec)

/-- ITS FALSE NEIGHBOUR: 'it returns false'. Refute it at one input. -/
def fnExactUsesOfWrong : ChangeSpec := { name := "fnExactUsesOf", fn := fun _ => fun
  | [d1, d2] => { results := [.lit (.bool false)], args := [d1, d2] }
  | _ => none }
def FnExactUsesOfWrongFalsely : Prop := fnExactUsesOfRow.holds Try.pinned (OpenSpec.ofChange fnExactUsesOfWrong)

/-- 'laws.FnExactScopeFault': WHATEVER THE INPUT: true; the input reads as it did. -/
def fnExactScopeFaultSpec : ChangeSpec := { name := "fnExactScopeFault", fn := fun _ => fun
  | [d] => { results := [.lit (.bool true)], args := [d] }
  | _ => none }
def fnExactScopeFaultRow : OpenClaim := { program := "ytbpidafhlpfiaaa", sum := "a5a401c7ef3fa36431ec9bfe7c0ee33a8bcf2f8d6f176aa0219d91424ce3cd4f", func := "loop.example/g00166/laws.FnExactScopeFault", spec := "fnExactScopeFault", unfollowed := true, recurses := true, apart := false }
def FnExactScopeFaultSaid : Prop := fnExactScopeFaultRow.holds Try.pinned (OpenSpec.ofChange fnExactScopeFaultSpec)

/-- ITS FALSE NEIGHBOUR: 'it returns false'. Refute it at one input. -/
def fnExactScopeFaultWrong : ChangeSpec := { name := "fnExactScopeFault", fn := fun _ => fun
  | [d] => { results := [.lit (.bool false)], args := [d] }
  | _ => none }
def FnExactScopeFaultWrongFalsely : Prop := fnExactScopeFaultRow.holds Try.pinned (OpenSpec.ofChange fnExactScopeFaultWrong)

/-- 'laws.FnExactSameRuns': WHATEVER THE INPUT: true; the input reads as it did. -/
def fnExactSameRunsSpec : ChangeSpec := { name := "fnExactSameRuns", fn := fun _ => fun
  | [d1, d2] => { results := [.lit (.bool true)], args := [d1, d2] }
  | _ => none }
def fnExactSameRunsRow : OpenClaim := { program := "ytbpidafhlpfiaaa", sum := "a5a401c7ef3fa36431ec9bfe7c0ee33a8bcf2f8d6f176aa0219d91424ce3cd4f", func := "loop.example/g00166/laws.FnExactSameRuns", spec := "fnExactSameRuns", inPlace := ["internal/bytealg.abigen_runtime_cmpstring"], unfollowed := true, recurses := true, apart := false }
def FnExactSameRunsSaid : Prop := fnExactSameRunsRow.holds Try.pinned (OpenSpec.ofChange fnExactSameRunsSpec)

/-- ITS FALSE NEIGHBOUR: 'it returns false'. Refute it at one input. -/
def fnExactSameRunsWrong : ChangeSpec := { name := "fnExactSameRuns", fn := fun _ => fun
  | [d1, d2] => { results := [.lit (.bool false)], args := [d1, d2] }
  | _ => none }
def FnExactSameRunsWrongFalsely : Prop := fnExactSameRunsRow.holds Try.pinned (OpenSpec.ofChange fnExactSameRunsWrong)

/-- 'laws.FnExactCoreFault': WHATEVER THE INPUT: true; the input reads as it did. -/
def fnExactCoreFaultSpec : ChangeSpec := { name := "fnExactCoreFault", fn := fun _ => fun
  | [d] => { results := [.lit (.bool true)], args := [d] }
  | _ => none }
def fnExactCoreFaultRow : OpenClaim := { program := "ytbpidafhlpfiaaa", sum := "a5a401c7ef3fa36431ec9bfe7c0ee33a8bcf2f8d6f176aa0219d91424ce3cd4f", func := "loop.example/g00166/laws.FnExactCoreFault", spec := "fnExactCoreFault", unfollowed := true, recurses := true, apart := false }
def FnExactCoreFaultSaid : Prop := fnExactCoreFaultRow.holds Try.pinned (OpenSpec.ofChange fnExactCoreFaultSpec)

/-- ITS FALSE NEIGHBOUR: 'it returns false'. Refute it at one input. -/
def fnExactCoreFaultWrong : ChangeSpec := { name := "fnExactCoreFault", fn := fun _ => fun
  | [d] => { results := [.lit (.bool false)], args := [d] }
  | _ => none }
def FnExactCoreFaultWrongFalsely : Prop := fnExactCoreFaultRow.holds Try.pinned (OpenSpec.ofChange fnExactCoreFaultWrong)

/-- 'laws.FnExactSizeOf': WHATEVER THE INPUT: true; the input reads as it did. -/
def fnExactSizeOfSpec : ChangeSpec := { name := "fnExactSizeOf", fn := fun _ => fun
  | [d] => { results := [.lit (.bool true)], args := [d] }
  | _ => none }
def fnExactSizeOfRow : OpenClaim := { program := "ytbpidafhlpfiaaa", sum := "a5a401c7ef3fa36431ec9bfe7c0ee33a8bcf2f8d6f176aa0219d91424ce3cd4f", func := "loop.example/g00166/laws.FnExactSizeOf", spec := "fnExactSizeOf", unfollowed := true, recurses := true, apart := false }
def FnExactSizeOfSaid : Prop := fnExactSizeOfRow.holds Try.pinned (OpenSpec.ofChange fnExactSizeOfSpec)

/-- ITS FALSE NEIGHBOUR: 'it returns false'. Refute it at one input. -/
def fnExactSizeOfWrong : ChangeSpec := { name := "fnExactSizeOf", fn := fun _ => fun
  | [d] => { results := [.lit (.bool false)], args := [d] }
  | _ => none }
def FnExactSizeOfWrongFalsely : Prop := fnExactSizeOfRow.holds Try.pinned (OpenSpec.ofChange fnExactSizeOfWrong)

/-- 'laws.FnExactSlotsOf': WHATEVER THE INPUT: true; the input reads as it did. -/
def fnExactSlotsOfSpec : ChangeSpec := { name := "fnExactSlotsOf", fn := fun _ => fun
  | [d] => { results := [.lit (.bool true)], args := [d] }
  | _ => none }
def fnExactSlotsOfRow : OpenClaim := { program := "ytbpidafhlpfiaaa", sum := "a5a401c7ef3fa36431ec9bfe7c0ee33a8bcf2f8d6f176aa0219d91424ce3cd4f", func := "loop.example/g00166/laws.FnExactSlotsOf", spec := "fnExactSlotsOf", unfollowed := true, recurses := true, apart := false }
def FnExactSlotsOfSaid : Prop := fnExactSlotsOfRow.holds Try.pinned (OpenSpec.ofChange fnExactSlotsOfSpec)

/-- ITS FALSE NEIGHBOUR: 'it returns false'. Refute it at one input. -/
def fnExactSlotsOfWrong : ChangeSpec := { name := "fnExactSlotsOf", fn := fun _ => fun
  | [d] => { results := [.lit (.bool false)], args := [d] }
  | _ => none }
def FnExactSlotsOfWrongFalsely : Prop := fnExactSlotsOfRow.holds Try.pinned (OpenSpec.ofChange fnExactSlotsOfWrong)

/-- 'laws.FnExactKindsCore': WHATEVER THE INPUT: true; the input reads as it did. -/
def fnExactKindsCoreSpec : ChangeSpec := { name := "fnExactKindsCore", fn := fun _ => fun
  | [d] => { results := [.lit (.bool true)], args := [d] }
  | _ => none }
def fnExactKindsCoreRow : OpenClaim := { program := "ytbpidafhlpfiaaa", sum := "a5a401c7ef3fa36431ec9bfe7c0ee33a8bcf2f8d6f176aa0219d91424ce3cd4f", func := "loop.example/g00166/laws.FnExactKindsCore", spec := "fnExactKindsCore", unfollowed := true, recurses := true, apart := false }
def FnExactKindsCoreSaid : Prop := fnExactKindsCoreRow.holds Try.pinned (OpenSpec.ofChange fnExactKindsCoreSpec)

/-- ITS FALSE NEIGHBOUR: 'it returns false'. Refute it at one input. -/
def fnExactKindsCoreWrong : ChangeSpec := { name := "fnExactKindsCore", fn := fun _ => fun
  | [d] => { results := [.lit (.bool false)], args := [d] }
  | _ => none }
def FnExactKindsCoreWrongFalsely : Prop := fnExactKindsCoreRow.holds Try.pinned (OpenSpec.ofChange fnExactKindsCoreWrong)

/-- 'laws.FnExactSureCore': WHATEVER THE INPUT: true; the input reads as it did. -/
def fnExactSureCoreSpec : ChangeSpec := { name := "fnExactSureCore", fn := fun _ => fun
  | [d] => { results := [.lit (.bool true)], args := [d] }
  | _ => none }
def fnExactSureCoreRow : OpenClaim := { program := "ytbpidafhlpfiaaa", sum := "a5a401c7ef3fa36431ec9bfe7c0ee33a8bcf2f8d6f176aa0219d91424ce3cd4f", func := "loop.example/g00166/laws.FnExactSureCore", spec := "fnExactSureCore", unfollowed := true, recurses := true, apart := false }
def FnExactSureCoreSaid : Prop := fnExactSureCoreRow.holds Try.pinned (OpenSpec.ofChange fnExactSureCoreSpec)

/-- ITS FALSE NEIGHBOUR: 'it returns false'. Refute it at one input. -/
def fnExactSureCoreWrong : ChangeSpec := { name := "fnExactSureCore", fn := fun _ => fun
  | [d] => { results := [.lit (.bool false)], args := [d] }
  | _ => none }
def FnExactSureCoreWrongFalsely : Prop := fnExactSureCoreRow.holds Try.pinned (OpenSpec.ofChange fnExactSureCoreWrong)

/-- 'laws.FnExactCountCore': WHATEVER THE INPUT: true; the input reads as it did. -/
def fnExactCountCoreSpec : ChangeSpec := { name := "fnExactCountCore", fn := fun _ => fun
  | [d] => { results := [.lit (.bool true)], args := [d] }
  | _ => none }
def fnExactCountCoreRow : OpenClaim := { program := "ytbpidafhlpfiaaa", sum := "a5a401c7ef3fa36431ec9bfe7c0ee33a8bcf2f8d6f176aa0219d91424ce3cd4f", func := "loop.example/g00166/laws.FnExactCountCore", spec := "fnExactCountCore", unfollowed := true, recurses := true, apart := false }
def FnExactCountCoreSaid : Prop := fnExactCountCoreRow.holds Try.pinned (OpenSpec.ofChange fnExactCountCoreSpec)

/-- ITS FALSE NEIGHBOUR: 'it returns false'. Refute it at one input. -/
def fnExactCountCoreWrong : ChangeSpec := { name := "fnExactCountCore", fn := fun _ => fun
  | [d] => { results := [.lit (.bool false)], args := [d] }
  | _ => none }
def FnExactCountCoreWrongFalsely : Prop := fnExactCountCoreRow.holds Try.pinned (OpenSpec.ofChange fnExactCountCoreWrong)

/-- 'laws.FnExactReadsCore': WHATEVER THE INPUT: true; the input reads as it did. -/
def fnExactReadsCoreSpec : ChangeSpec := { name := "fnExactReadsCore", fn := fun _ => fun
  | [d] => { results := [.lit (.bool true)], args := [d] }
  | _ => none }
def fnExactReadsCoreRow : OpenClaim := { program := "ytbpidafhlpfiaaa", sum := "a5a401c7ef3fa36431ec9bfe7c0ee33a8bcf2f8d6f176aa0219d91424ce3cd4f", func := "loop.example/g00166/laws.FnExactReadsCore", spec := "fnExactReadsCore", unfollowed := true, recurses := true, apart := false }
def FnExactReadsCoreSaid : Prop := fnExactReadsCoreRow.holds Try.pinned (OpenSpec.ofChange fnExactReadsCoreSpec)

/-- ITS FALSE NEIGHBOUR: 'it returns false'. Refute it at one input. -/
def fnExactReadsCoreWrong : ChangeSpec := { name := "fnExactReadsCore", fn := fun _ => fun
  | [d] => { results := [.lit (.bool false)], args := [d] }
  | _ => none }
def FnExactReadsCoreWrongFalsely : Prop := fnExactReadsCoreRow.holds Try.pinned (OpenSpec.ofChange fnExactReadsCoreWrong)

/-- 'laws.FnExactEncodeString': WHATEVER THE INPUT: true; the input reads as it did. -/
def fnExactEncodeStringSpec : ChangeSpec := { name := "fnExactEncodeString", fn := fun _ => fun
  | [d] => { results := [.lit (.bool true)], args := [d] }
  | _ => none }
def fnExactEncodeStringRow : OpenClaim := { program := "ytbpidafhlpfiaaa", sum := "a5a401c7ef3fa36431ec9bfe7c0ee33a8bcf2f8d6f176aa0219d91424ce3cd4f", func := "loop.example/g00166/laws.FnExactEncodeString", spec := "fnExactEncodeString", inPlace := ["sync/atomic.LoadUint32", "(*internal/sync.Mutex).Lock", "internal/race.Disable", "sync/atomic.CompareAndSwapInt32", "internal/race.Enable", "internal/race.Acquire", "(*internal/sync.Mutex).lockSlow", "internal/sync.runtime_canSpin", "internal/sync.runtime_doSpin", "internal/sync.throw", "internal/sync.runtime_nanotime", "internal/sync.runtime_SemacquireMutex", "sync/atomic.AddInt32", "(*internal/sync.Mutex).Unlock", "internal/race.ReleaseMerge", "(*internal/sync.Mutex).unlockSlow", "internal/sync.fatal", "internal/sync.runtime_Semrelease", "sync/atomic.StoreUint32"], unfollowed := true, recurses := true, apart := false }
def FnExactEncodeStringSaid : Prop := fnExactEncodeStringRow.holds Try.pinned (OpenSpec.ofChange fnExactEncodeStringSpec)

/-- ITS FALSE NEIGHBOUR: 'it returns false'. Refute it at one input. -/
def fnExactEncodeStringWrong : ChangeSpec := { name := "fnExactEncodeString", fn := fun _ => fun
  | [d] => { results := [.lit (.bool false)], args := [d] }
  | _ => none }
def FnExactEncodeStringWrongFalsely : Prop := fnExactEncodeStringRow.holds Try.pinned (OpenSpec.ofChange fnExactEncodeStringWrong)

/-- 'laws.FnExactSortOf': WHATEVER THE INPUT: true; the input reads as it did. -/
def fnExactSortOfSpec : ChangeSpec := { name := "fnExactSortOf", fn := fun _ => fun
  | [d] => { results := [.lit (.bool true)], args := [d] }
  | _ => none }
def fnExactSortOfRow : OpenClaim := { program := "ytbpidafhlpfiaaa", sum := "a5a401c7ef3fa36431ec9bfe7c0ee33a8bcf2f8d6f176aa0219d91424ce3cd4f", func := "loop.example/g00166/laws.FnExactSortOf", spec := "fnExactSortOf", inPlace := ["internal/bytealg.abigen_runtime_cmpstring"], unfollowed := true, recurses := true, apart := false }
def FnExactSortOfSaid : Prop := fnExactSortOfRow.holds Try.pinned (OpenSpec.ofChange fnExactSortOfSpec)

/-- ITS FALSE NEIGHBOUR: 'it returns false'. Refute it at one input. -/
def fnExactSortOfWrong : ChangeSpec := { name := "fnExactSortOf", fn := fun _ => fun
  | [d] => { results := [.lit (.bool false)], args := [d] }
  | _ => none }
def FnExactSortOfWrongFalsely : Prop := fnExactSortOfRow.holds Try.pinned (OpenSpec.ofChange fnExactSortOfWrong)

/-- 'laws.FnExactSetKey': WHATEVER THE INPUT: true; the input reads as it did. -/
def fnExactSetKeySpec : ChangeSpec := { name := "fnExactSetKey", fn := fun _ => fun
  | [d1, d2, d3] => { results := [.lit (.bool true)], args := [d1, d2, d3] }
  | _ => none }
def fnExactSetKeyRow : OpenClaim := { program := "ytbpidafhlpfiaaa", sum := "a5a401c7ef3fa36431ec9bfe7c0ee33a8bcf2f8d6f176aa0219d91424ce3cd4f", func := "loop.example/g00166/laws.FnExactSetKey", spec := "fnExactSetKey", unfollowed := true, recurses := true, apart := false }
def FnExactSetKeySaid : Prop := fnExactSetKeyRow.holds Try.pinned (OpenSpec.ofChange fnExactSetKeySpec)

/-- ITS FALSE NEIGHBOUR: 'it returns false'. Refute it at one input. -/
def fnExactSetKeyWrong : ChangeSpec := { name := "fnExactSetKey", fn := fun _ => fun
  | [d1, d2, d3] => { results := [.lit (.bool false)], args := [d1, d2, d3] }
  | _ => none }
def FnExactSetKeyWrongFalsely : Prop := fnExactSetKeyRow.holds Try.pinned (OpenSpec.ofChange fnExactSetKeyWrong)

/-- 'laws.FnExactObjectValue': WHATEVER THE INPUT: true; the input reads as it did. -/
def fnExactObjectValueSpec : ChangeSpec := { name := "fnExactObjectValue", fn := fun _ => fun
  | [d1, d2] => { results := [.lit (.bool true)], args := [d1, d2] }
  | _ => none }
def fnExactObjectValueRow : OpenClaim := { program := "ytbpidafhlpfiaaa", sum := "a5a401c7ef3fa36431ec9bfe7c0ee33a8bcf2f8d6f176aa0219d91424ce3cd4f", func := "loop.example/g00166/laws.FnExactObjectValue", spec := "fnExactObjectValue", unfollowed := true, recurses := true, apart := false }
def FnExactObjectValueSaid : Prop := fnExactObjectValueRow.holds Try.pinned (OpenSpec.ofChange fnExactObjectValueSpec)

/-- ITS FALSE NEIGHBOUR: 'it returns false'. Refute it at one input. -/
def fnExactObjectValueWrong : ChangeSpec := { name := "fnExactObjectValue", fn := fun _ => fun
  | [d1, d2] => { results := [.lit (.bool false)], args := [d1, d2] }
  | _ => none }
def FnExactObjectValueWrongFalsely : Prop := fnExactObjectValueRow.holds Try.pinned (OpenSpec.ofChange fnExactObjectValueWrong)

/- THE SECOND FORM. 'bulk': how many values and letters a reading holds, each counted each time it is reached (what is shared counts as often as it is met; a slice's spare places count too). A statement '..UptoSaid' is the law's where the arguments, and the package variables that the reading takes, are together of bulk at most 1048576: NARROWER than '..Said'. Prove '..Said' where nothing that the law and all that it calls make is longer than what came in: it says more and counts as full. Else prove '..UptoSaid'. A law counts once. -/
mutual
def uptoBulk {H : Type} : DataW H → Nat
  | .lit (.string bytes) => bytes.length + 1
  | .lit _ => 1
  | .nil => 1
  | .ptr d => uptoBulk d + 1
  | .slice elems spare => uptoBulkAll elems + uptoBulkAll spare + 1
  | .agg parts => uptoBulkAll parts + 1
  | .iface _ d => uptoBulk d + 1
  | .map entries => uptoBulkEntries entries + 1
  | .held _ => 1
def uptoBulkAll {H : Type} : List (DataW H) → Nat
  | [] => 0
  | d :: r => uptoBulk d + uptoBulkAll r
def uptoBulkEntries {H : Type} : List (Lit × DataW H) → Nat
  | [] => 0
  | x :: r => uptoBulkEntry x + uptoBulkEntries r
def uptoBulkEntry {H : Type} : Lit × DataW H → Nat
  | (.string bytes, d) => bytes.length + uptoBulk d + 1
  | (_, d) => uptoBulk d + 1
 end
def uptoSmall : (H : Type) → List (DataW H) → Bool := fun _ ds => decide (uptoBulkAll ds ≤ 1048576)
def OpenSpec.upto (s : _root_.Go.ChangeSpec) : _root_.Go.OpenSpec := { _root_.Go.OpenSpec.ofChange s with cond := some uptoSmall }

/-- 'laws.FnOrders', WHERE WHAT IT READS IS OF BULK AT MOST 1048576: true; the input reads as it did. -/
def fnOrdersUptoRow : OpenClaim := { program := "ytbpidafhlpfiaaa", sum := "a5a401c7ef3fa36431ec9bfe7c0ee33a8bcf2f8d6f176aa0219d91424ce3cd4f", func := "loop.example/g00166/laws.FnOrders", spec := "fnOrders", inPlace := ["internal/bytealg.abigen_runtime_cmpstring"], recurses := true, apart := false, narrowed := true }
def FnOrdersUptoSaid : Prop := fnOrdersUptoRow.holds Try.pinned (OpenSpec.upto fnOrdersSpec)

/-- 'laws.FnExactEachOf', WHERE WHAT IT READS IS OF BULK AT MOST 1048576: true; the input reads as it did. -/
def fnExactEachOfUptoRow : OpenClaim := { program := "ytbpidafhlpfiaaa", sum := "a5a401c7ef3fa36431ec9bfe7c0ee33a8bcf2f8d6f176aa0219d91424ce3cd4f", func := "loop.example/g00166/laws.FnExactEachOf", spec := "fnExactEachOf", recurses := true, apart := false, narrowed := true }
def FnExactEachOfUptoSaid : Prop := fnExactEachOfUptoRow.holds Try.pinned (OpenSpec.upto fnExactEachOfSpec)

/-- 'laws.FnExactArrayValue', WHERE WHAT IT READS IS OF BULK AT MOST 1048576: true; the input reads as it did. -/
def fnExactArrayValueUptoRow : OpenClaim := { program := "ytbpidafhlpfiaaa", sum := "a5a401c7ef3fa36431ec9bfe7c0ee33a8bcf2f8d6f176aa0219d91424ce3cd4f", func := "loop.example/g00166/laws.FnExactArrayValue", spec := "fnExactArrayValue", recurses := true, apart := false, narrowed := true }
def FnExactArrayValueUptoSaid : Prop := fnExactArrayValueUptoRow.holds Try.pinned (OpenSpec.upto fnExactArrayValueSpec)

/-- 'laws.FnExactTreeFault', WHERE WHAT IT READS IS OF BULK AT MOST 1048576: true; the input reads as it did. -/
def fnExactTreeFaultUptoRow : OpenClaim := { program := "ytbpidafhlpfiaaa", sum := "a5a401c7ef3fa36431ec9bfe7c0ee33a8bcf2f8d6f176aa0219d91424ce3cd4f", func := "loop.example/g00166/laws.FnExactTreeFault", spec := "fnExactTreeFault", unfollowed := true, recurses := true, apart := false, narrowed := true }
def FnExactTreeFaultUptoSaid : Prop := fnExactTreeFaultUptoRow.holds Try.pinned (OpenSpec.upto fnExactTreeFaultSpec)

/-- 'laws.FnExactUsesOf', WHERE WHAT IT READS IS OF BULK AT MOST 1048576: true; the input reads as it did. -/
def fnExactUsesOfUptoRow : OpenClaim := { program := "ytbpidafhlpfiaaa", sum := "a5a401c7ef3fa36431ec9bfe7c0ee33a8bcf2f8d6f176aa0219d91424ce3cd4f", func := "loop.example/g00166/laws.FnExactUsesOf", spec := "fnExactUsesOf", unfollowed := true, recurses := true, apart := false, narrowed := true }
def FnExactUsesOfUptoSaid : Prop := fnExactUsesOfUptoRow.holds Try.pinned (OpenSpec.upto fnExactUsesOfSpec)

/-- 'laws.FnExactScopeFault', WHERE WHAT IT READS IS OF BULK AT MOST 1048576: true; the input reads as it did. -/
def fnExactScopeFaultUptoRow : OpenClaim := { program := "ytbpidafhlpfiaaa", sum := "a5a401c7ef3fa36431ec9bfe7c0ee33a8bcf2f8d6f176aa0219d91424ce3cd4f", func := "loop.example/g00166/laws.FnExactScopeFault", spec := "fnExactScopeFault", unfollowed := true, recurses := true, apart := false, narrowed := true }
def FnExactScopeFaultUptoSaid : Prop := fnExactScopeFaultUptoRow.holds Try.pinned (OpenSpec.upto fnExactScopeFaultSpec)

/-- 'laws.FnExactSameRuns', WHERE WHAT IT READS IS OF BULK AT MOST 1048576: true; the input reads as it did. -/
def fnExactSameRunsUptoRow : OpenClaim := { program := "ytbpidafhlpfiaaa", sum := "a5a401c7ef3fa36431ec9bfe7c0ee33a8bcf2f8d6f176aa0219d91424ce3cd4f", func := "loop.example/g00166/laws.FnExactSameRuns", spec := "fnExactSameRuns", inPlace := ["internal/bytealg.abigen_runtime_cmpstring"], unfollowed := true, recurses := true, apart := false, narrowed := true }
def FnExactSameRunsUptoSaid : Prop := fnExactSameRunsUptoRow.holds Try.pinned (OpenSpec.upto fnExactSameRunsSpec)

/-- 'laws.FnExactCoreFault', WHERE WHAT IT READS IS OF BULK AT MOST 1048576: true; the input reads as it did. -/
def fnExactCoreFaultUptoRow : OpenClaim := { program := "ytbpidafhlpfiaaa", sum := "a5a401c7ef3fa36431ec9bfe7c0ee33a8bcf2f8d6f176aa0219d91424ce3cd4f", func := "loop.example/g00166/laws.FnExactCoreFault", spec := "fnExactCoreFault", unfollowed := true, recurses := true, apart := false, narrowed := true }
def FnExactCoreFaultUptoSaid : Prop := fnExactCoreFaultUptoRow.holds Try.pinned (OpenSpec.upto fnExactCoreFaultSpec)

/-- 'laws.FnExactSizeOf', WHERE WHAT IT READS IS OF BULK AT MOST 1048576: true; the input reads as it did. -/
def fnExactSizeOfUptoRow : OpenClaim := { program := "ytbpidafhlpfiaaa", sum := "a5a401c7ef3fa36431ec9bfe7c0ee33a8bcf2f8d6f176aa0219d91424ce3cd4f", func := "loop.example/g00166/laws.FnExactSizeOf", spec := "fnExactSizeOf", unfollowed := true, recurses := true, apart := false, narrowed := true }
def FnExactSizeOfUptoSaid : Prop := fnExactSizeOfUptoRow.holds Try.pinned (OpenSpec.upto fnExactSizeOfSpec)

/-- 'laws.FnExactSlotsOf', WHERE WHAT IT READS IS OF BULK AT MOST 1048576: true; the input reads as it did. -/
def fnExactSlotsOfUptoRow : OpenClaim := { program := "ytbpidafhlpfiaaa", sum := "a5a401c7ef3fa36431ec9bfe7c0ee33a8bcf2f8d6f176aa0219d91424ce3cd4f", func := "loop.example/g00166/laws.FnExactSlotsOf", spec := "fnExactSlotsOf", unfollowed := true, recurses := true, apart := false, narrowed := true }
def FnExactSlotsOfUptoSaid : Prop := fnExactSlotsOfUptoRow.holds Try.pinned (OpenSpec.upto fnExactSlotsOfSpec)

/-- 'laws.FnExactKindsCore', WHERE WHAT IT READS IS OF BULK AT MOST 1048576: true; the input reads as it did. -/
def fnExactKindsCoreUptoRow : OpenClaim := { program := "ytbpidafhlpfiaaa", sum := "a5a401c7ef3fa36431ec9bfe7c0ee33a8bcf2f8d6f176aa0219d91424ce3cd4f", func := "loop.example/g00166/laws.FnExactKindsCore", spec := "fnExactKindsCore", unfollowed := true, recurses := true, apart := false, narrowed := true }
def FnExactKindsCoreUptoSaid : Prop := fnExactKindsCoreUptoRow.holds Try.pinned (OpenSpec.upto fnExactKindsCoreSpec)

/-- 'laws.FnExactSureCore', WHERE WHAT IT READS IS OF BULK AT MOST 1048576: true; the input reads as it did. -/
def fnExactSureCoreUptoRow : OpenClaim := { program := "ytbpidafhlpfiaaa", sum := "a5a401c7ef3fa36431ec9bfe7c0ee33a8bcf2f8d6f176aa0219d91424ce3cd4f", func := "loop.example/g00166/laws.FnExactSureCore", spec := "fnExactSureCore", unfollowed := true, recurses := true, apart := false, narrowed := true }
def FnExactSureCoreUptoSaid : Prop := fnExactSureCoreUptoRow.holds Try.pinned (OpenSpec.upto fnExactSureCoreSpec)

/-- 'laws.FnExactCountCore', WHERE WHAT IT READS IS OF BULK AT MOST 1048576: true; the input reads as it did. -/
def fnExactCountCoreUptoRow : OpenClaim := { program := "ytbpidafhlpfiaaa", sum := "a5a401c7ef3fa36431ec9bfe7c0ee33a8bcf2f8d6f176aa0219d91424ce3cd4f", func := "loop.example/g00166/laws.FnExactCountCore", spec := "fnExactCountCore", unfollowed := true, recurses := true, apart := false, narrowed := true }
def FnExactCountCoreUptoSaid : Prop := fnExactCountCoreUptoRow.holds Try.pinned (OpenSpec.upto fnExactCountCoreSpec)

/-- 'laws.FnExactReadsCore', WHERE WHAT IT READS IS OF BULK AT MOST 1048576: true; the input reads as it did. -/
def fnExactReadsCoreUptoRow : OpenClaim := { program := "ytbpidafhlpfiaaa", sum := "a5a401c7ef3fa36431ec9bfe7c0ee33a8bcf2f8d6f176aa0219d91424ce3cd4f", func := "loop.example/g00166/laws.FnExactReadsCore", spec := "fnExactReadsCore", unfollowed := true, recurses := true, apart := false, narrowed := true }
def FnExactReadsCoreUptoSaid : Prop := fnExactReadsCoreUptoRow.holds Try.pinned (OpenSpec.upto fnExactReadsCoreSpec)

/-- 'laws.FnExactEncodeString', WHERE WHAT IT READS IS OF BULK AT MOST 1048576: true; the input reads as it did. -/
def fnExactEncodeStringUptoRow : OpenClaim := { program := "ytbpidafhlpfiaaa", sum := "a5a401c7ef3fa36431ec9bfe7c0ee33a8bcf2f8d6f176aa0219d91424ce3cd4f", func := "loop.example/g00166/laws.FnExactEncodeString", spec := "fnExactEncodeString", inPlace := ["sync/atomic.LoadUint32", "(*internal/sync.Mutex).Lock", "internal/race.Disable", "sync/atomic.CompareAndSwapInt32", "internal/race.Enable", "internal/race.Acquire", "(*internal/sync.Mutex).lockSlow", "internal/sync.runtime_canSpin", "internal/sync.runtime_doSpin", "internal/sync.throw", "internal/sync.runtime_nanotime", "internal/sync.runtime_SemacquireMutex", "sync/atomic.AddInt32", "(*internal/sync.Mutex).Unlock", "internal/race.ReleaseMerge", "(*internal/sync.Mutex).unlockSlow", "internal/sync.fatal", "internal/sync.runtime_Semrelease", "sync/atomic.StoreUint32"], unfollowed := true, recurses := true, apart := false, narrowed := true }
def FnExactEncodeStringUptoSaid : Prop := fnExactEncodeStringUptoRow.holds Try.pinned (OpenSpec.upto fnExactEncodeStringSpec)

/-- 'laws.FnExactSortOf', WHERE WHAT IT READS IS OF BULK AT MOST 1048576: true; the input reads as it did. -/
def fnExactSortOfUptoRow : OpenClaim := { program := "ytbpidafhlpfiaaa", sum := "a5a401c7ef3fa36431ec9bfe7c0ee33a8bcf2f8d6f176aa0219d91424ce3cd4f", func := "loop.example/g00166/laws.FnExactSortOf", spec := "fnExactSortOf", inPlace := ["internal/bytealg.abigen_runtime_cmpstring"], unfollowed := true, recurses := true, apart := false, narrowed := true }
def FnExactSortOfUptoSaid : Prop := fnExactSortOfUptoRow.holds Try.pinned (OpenSpec.upto fnExactSortOfSpec)

/-- 'laws.FnExactSetKey', WHERE WHAT IT READS IS OF BULK AT MOST 1048576: true; the input reads as it did. -/
def fnExactSetKeyUptoRow : OpenClaim := { program := "ytbpidafhlpfiaaa", sum := "a5a401c7ef3fa36431ec9bfe7c0ee33a8bcf2f8d6f176aa0219d91424ce3cd4f", func := "loop.example/g00166/laws.FnExactSetKey", spec := "fnExactSetKey", unfollowed := true, recurses := true, apart := false, narrowed := true }
def FnExactSetKeyUptoSaid : Prop := fnExactSetKeyUptoRow.holds Try.pinned (OpenSpec.upto fnExactSetKeySpec)

/-- 'laws.FnExactObjectValue', WHERE WHAT IT READS IS OF BULK AT MOST 1048576: true; the input reads as it did. -/
def fnExactObjectValueUptoRow : OpenClaim := { program := "ytbpidafhlpfiaaa", sum := "a5a401c7ef3fa36431ec9bfe7c0ee33a8bcf2f8d6f176aa0219d91424ce3cd4f", func := "loop.example/g00166/laws.FnExactObjectValue", spec := "fnExactObjectValue", unfollowed := true, recurses := true, apart := false, narrowed := true }
def FnExactObjectValueUptoSaid : Prop := fnExactObjectValueUptoRow.holds Try.pinned (OpenSpec.upto fnExactObjectValueSpec)

end Rows
end Go.Proofs.Ytbpidafhlpfiaaa
