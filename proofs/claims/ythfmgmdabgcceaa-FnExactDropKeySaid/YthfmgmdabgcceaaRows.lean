/-
  No cell of these rows narrows 'for every input' (looked for: loops, veiled, ifaces, maps, wideKeys, modest, calm, conditions, laid).
  DERIVED. THE GIVEN ROWS OF THIS SEAT. 20 by the template 'for every input the law returns true; each argument reads behind the call as it read before'; 0 by the template 'total and deterministic' (their statements: YthfmgmdabgcceaaTotals.lean).
  GIVEN WITH THE SEED: the statements are not yours to turn. If you find one false, say at which input.
  Laid BY PROGRAM, IN A SANDBOX (cutbox-rows.mjs): the forced cells as the released guide's own fill.sh prints them over the translation 66497bcbb8e0aedd… (all of the seat's roots in one cut). By AI agents, Wed Nov 11 2026. No macro, syntax, notation, axiom, sorry.
-/
import Derived.Test.YthfmgmdabgcceaaChecked
import GoSem.Claim
import GoSem.ClaimJoined
import GoSem.ClaimMapViews
import Derived.JoinedTies
import Derived.KernelRfl
namespace Go.Proofs.Ythfmgmdabgcceaa
/- THE CELL 'sum', in the pinned program and in every row, IS THE sha256 OF THE DUMP (.gsa) THAT YthfmgmdabgcceaaProg.lean LOADS. Nothing in Lean hashes anything: it is a label: what it is worth is what the hold of that sum in a sandbox is worth. -/
noncomputable def Try.pinned : Pinned := { name := "ythfmgmdabgcceaa", sum := "66497bcbb8e0aedd1df76734333521a74e9223ae8f69196f0046af1ec49a7424", checked := Try.checked }
namespace Rows
def none {H : Type} : Left H := { results := [], args := [] }

/-- 'laws.FnExactChildrenAt': WHATEVER THE INPUT: true; the input reads as it did. -/
def fnExactChildrenAtSpec : ChangeSpec := { name := "fnExactChildrenAt", fn := fun _ => fun
  | [d1, d2] => { results := [.lit (.bool true)], args := [d1, d2] }
  | _ => none }
def fnExactChildrenAtRow : OpenClaim := { program := "ythfmgmdabgcceaa", sum := "66497bcbb8e0aedd1df76734333521a74e9223ae8f69196f0046af1ec49a7424", func := "loop.example/g00166/laws.FnExactChildrenAt", spec := "fnExactChildrenAt", recurses := true, apart := false }
def FnExactChildrenAtSaid : Prop := fnExactChildrenAtRow.holds Try.pinned (OpenSpec.ofChange fnExactChildrenAtSpec)

/-- ITS FALSE NEIGHBOUR: 'it returns false'. Refute it at one input. -/
def fnExactChildrenAtWrong : ChangeSpec := { name := "fnExactChildrenAt", fn := fun _ => fun
  | [d1, d2] => { results := [.lit (.bool false)], args := [d1, d2] }
  | _ => none }
def FnExactChildrenAtWrongFalsely : Prop := fnExactChildrenAtRow.holds Try.pinned (OpenSpec.ofChange fnExactChildrenAtWrong)

/-- 'laws.FnExactPartAt': WHATEVER THE INPUT: true; the input reads as it did. -/
def fnExactPartAtSpec : ChangeSpec := { name := "fnExactPartAt", fn := fun _ => fun
  | [d1, d2] => { results := [.lit (.bool true)], args := [d1, d2] }
  | _ => none }
def fnExactPartAtRow : OpenClaim := { program := "ythfmgmdabgcceaa", sum := "66497bcbb8e0aedd1df76734333521a74e9223ae8f69196f0046af1ec49a7424", func := "loop.example/g00166/laws.FnExactPartAt", spec := "fnExactPartAt", recurses := true, apart := false }
def FnExactPartAtSaid : Prop := fnExactPartAtRow.holds Try.pinned (OpenSpec.ofChange fnExactPartAtSpec)

/-- ITS FALSE NEIGHBOUR: 'it returns false'. Refute it at one input. -/
def fnExactPartAtWrong : ChangeSpec := { name := "fnExactPartAt", fn := fun _ => fun
  | [d1, d2] => { results := [.lit (.bool false)], args := [d1, d2] }
  | _ => none }
def FnExactPartAtWrongFalsely : Prop := fnExactPartAtRow.holds Try.pinned (OpenSpec.ofChange fnExactPartAtWrong)

/-- 'laws.FnOrders': WHATEVER THE INPUT: true; the input reads as it did. -/
def fnOrdersSpec : ChangeSpec := { name := "fnOrders", fn := fun _ => fun
  | [d] => { results := [.lit (.bool true)], args := [d] }
  | _ => none }
def fnOrdersRow : OpenClaim := { program := "ythfmgmdabgcceaa", sum := "66497bcbb8e0aedd1df76734333521a74e9223ae8f69196f0046af1ec49a7424", func := "loop.example/g00166/laws.FnOrders", spec := "fnOrders", inPlace := ["internal/bytealg.abigen_runtime_cmpstring"], recurses := true, apart := false }
def FnOrdersSaid : Prop := fnOrdersRow.holds Try.pinned (OpenSpec.ofChange fnOrdersSpec)

/-- ITS FALSE NEIGHBOUR: 'it returns false'. Refute it at one input. -/
def fnOrdersWrong : ChangeSpec := { name := "fnOrders", fn := fun _ => fun
  | [d] => { results := [.lit (.bool false)], args := [d] }
  | _ => none }
def FnOrdersWrongFalsely : Prop := fnOrdersRow.holds Try.pinned (OpenSpec.ofChange fnOrdersWrong)

/-- 'laws.FnExactCompareValues': WHATEVER THE INPUT: true; the input reads as it did. -/
def fnExactCompareValuesSpec : ChangeSpec := { name := "fnExactCompareValues", fn := fun _ => fun
  | [d1, d2] => { results := [.lit (.bool true)], args := [d1, d2] }
  | _ => none }
def fnExactCompareValuesRow : OpenClaim := { program := "ythfmgmdabgcceaa", sum := "66497bcbb8e0aedd1df76734333521a74e9223ae8f69196f0046af1ec49a7424", func := "loop.example/g00166/laws.FnExactCompareValues", spec := "fnExactCompareValues", inPlace := ["internal/bytealg.abigen_runtime_cmpstring"], recurses := true, apart := false }
def FnExactCompareValuesSaid : Prop := fnExactCompareValuesRow.holds Try.pinned (OpenSpec.ofChange fnExactCompareValuesSpec)

/-- ITS FALSE NEIGHBOUR: 'it returns false'. Refute it at one input. -/
def fnExactCompareValuesWrong : ChangeSpec := { name := "fnExactCompareValues", fn := fun _ => fun
  | [d1, d2] => { results := [.lit (.bool false)], args := [d1, d2] }
  | _ => none }
def FnExactCompareValuesWrongFalsely : Prop := fnExactCompareValuesRow.holds Try.pinned (OpenSpec.ofChange fnExactCompareValuesWrong)

/-- 'laws.FnExactSameValues': WHATEVER THE INPUT: true; the input reads as it did. -/
def fnExactSameValuesSpec : ChangeSpec := { name := "fnExactSameValues", fn := fun _ => fun
  | [d1, d2] => { results := [.lit (.bool true)], args := [d1, d2] }
  | _ => none }
def fnExactSameValuesRow : OpenClaim := { program := "ythfmgmdabgcceaa", sum := "66497bcbb8e0aedd1df76734333521a74e9223ae8f69196f0046af1ec49a7424", func := "loop.example/g00166/laws.FnExactSameValues", spec := "fnExactSameValues", inPlace := ["internal/bytealg.abigen_runtime_cmpstring"], recurses := true, apart := false }
def FnExactSameValuesSaid : Prop := fnExactSameValuesRow.holds Try.pinned (OpenSpec.ofChange fnExactSameValuesSpec)

/-- ITS FALSE NEIGHBOUR: 'it returns false'. Refute it at one input. -/
def fnExactSameValuesWrong : ChangeSpec := { name := "fnExactSameValues", fn := fun _ => fun
  | [d1, d2] => { results := [.lit (.bool false)], args := [d1, d2] }
  | _ => none }
def FnExactSameValuesWrongFalsely : Prop := fnExactSameValuesRow.holds Try.pinned (OpenSpec.ofChange fnExactSameValuesWrong)

/-- 'laws.FnExactEachOf': WHATEVER THE INPUT: true; the input reads as it did. -/
def fnExactEachOfSpec : ChangeSpec := { name := "fnExactEachOf", fn := fun _ => fun
  | [d] => { results := [.lit (.bool true)], args := [d] }
  | _ => none }
def fnExactEachOfRow : OpenClaim := { program := "ythfmgmdabgcceaa", sum := "66497bcbb8e0aedd1df76734333521a74e9223ae8f69196f0046af1ec49a7424", func := "loop.example/g00166/laws.FnExactEachOf", spec := "fnExactEachOf", recurses := true, apart := false }
def FnExactEachOfSaid : Prop := fnExactEachOfRow.holds Try.pinned (OpenSpec.ofChange fnExactEachOfSpec)

/-- ITS FALSE NEIGHBOUR: 'it returns false'. Refute it at one input. -/
def fnExactEachOfWrong : ChangeSpec := { name := "fnExactEachOf", fn := fun _ => fun
  | [d] => { results := [.lit (.bool false)], args := [d] }
  | _ => none }
def FnExactEachOfWrongFalsely : Prop := fnExactEachOfRow.holds Try.pinned (OpenSpec.ofChange fnExactEachOfWrong)

/-- 'laws.FnExactDeepOf': WHATEVER THE INPUT: true; the input reads as it did. -/
def fnExactDeepOfSpec : ChangeSpec := { name := "fnExactDeepOf", fn := fun _ => fun
  | [d] => { results := [.lit (.bool true)], args := [d] }
  | _ => none }
def fnExactDeepOfRow : OpenClaim := { program := "ythfmgmdabgcceaa", sum := "66497bcbb8e0aedd1df76734333521a74e9223ae8f69196f0046af1ec49a7424", func := "loop.example/g00166/laws.FnExactDeepOf", spec := "fnExactDeepOf", unfollowed := true, recurses := true, apart := false }
def FnExactDeepOfSaid : Prop := fnExactDeepOfRow.holds Try.pinned (OpenSpec.ofChange fnExactDeepOfSpec)

/-- ITS FALSE NEIGHBOUR: 'it returns false'. Refute it at one input. -/
def fnExactDeepOfWrong : ChangeSpec := { name := "fnExactDeepOf", fn := fun _ => fun
  | [d] => { results := [.lit (.bool false)], args := [d] }
  | _ => none }
def FnExactDeepOfWrongFalsely : Prop := fnExactDeepOfRow.holds Try.pinned (OpenSpec.ofChange fnExactDeepOfWrong)

/-- 'laws.FnExactGetIndex': WHATEVER THE INPUT: true; the input reads as it did. -/
def fnExactGetIndexSpec : ChangeSpec := { name := "fnExactGetIndex", fn := fun _ => fun
  | [d1, d2] => { results := [.lit (.bool true)], args := [d1, d2] }
  | _ => none }
def fnExactGetIndexRow : OpenClaim := { program := "ythfmgmdabgcceaa", sum := "66497bcbb8e0aedd1df76734333521a74e9223ae8f69196f0046af1ec49a7424", func := "loop.example/g00166/laws.FnExactGetIndex", spec := "fnExactGetIndex", unfollowed := true, recurses := true, apart := false }
def FnExactGetIndexSaid : Prop := fnExactGetIndexRow.holds Try.pinned (OpenSpec.ofChange fnExactGetIndexSpec)

/-- ITS FALSE NEIGHBOUR: 'it returns false'. Refute it at one input. -/
def fnExactGetIndexWrong : ChangeSpec := { name := "fnExactGetIndex", fn := fun _ => fun
  | [d1, d2] => { results := [.lit (.bool false)], args := [d1, d2] }
  | _ => none }
def FnExactGetIndexWrongFalsely : Prop := fnExactGetIndexRow.holds Try.pinned (OpenSpec.ofChange fnExactGetIndexWrong)

/-- 'laws.FnExactArrayValue': WHATEVER THE INPUT: true; the input reads as it did. -/
def fnExactArrayValueSpec : ChangeSpec := { name := "fnExactArrayValue", fn := fun _ => fun
  | [d] => { results := [.lit (.bool true)], args := [d] }
  | _ => none }
def fnExactArrayValueRow : OpenClaim := { program := "ythfmgmdabgcceaa", sum := "66497bcbb8e0aedd1df76734333521a74e9223ae8f69196f0046af1ec49a7424", func := "loop.example/g00166/laws.FnExactArrayValue", spec := "fnExactArrayValue", recurses := true, apart := false }
def FnExactArrayValueSaid : Prop := fnExactArrayValueRow.holds Try.pinned (OpenSpec.ofChange fnExactArrayValueSpec)

/-- ITS FALSE NEIGHBOUR: 'it returns false'. Refute it at one input. -/
def fnExactArrayValueWrong : ChangeSpec := { name := "fnExactArrayValue", fn := fun _ => fun
  | [d] => { results := [.lit (.bool false)], args := [d] }
  | _ => none }
def FnExactArrayValueWrongFalsely : Prop := fnExactArrayValueRow.holds Try.pinned (OpenSpec.ofChange fnExactArrayValueWrong)

/-- 'laws.FnExactKeysOf': WHATEVER THE INPUT: true; the input reads as it did. -/
def fnExactKeysOfSpec : ChangeSpec := { name := "fnExactKeysOf", fn := fun _ => fun
  | [d] => { results := [.lit (.bool true)], args := [d] }
  | _ => none }
def fnExactKeysOfRow : OpenClaim := { program := "ythfmgmdabgcceaa", sum := "66497bcbb8e0aedd1df76734333521a74e9223ae8f69196f0046af1ec49a7424", func := "loop.example/g00166/laws.FnExactKeysOf", spec := "fnExactKeysOf", unfollowed := true, recurses := true, apart := false }
def FnExactKeysOfSaid : Prop := fnExactKeysOfRow.holds Try.pinned (OpenSpec.ofChange fnExactKeysOfSpec)

/-- ITS FALSE NEIGHBOUR: 'it returns false'. Refute it at one input. -/
def fnExactKeysOfWrong : ChangeSpec := { name := "fnExactKeysOf", fn := fun _ => fun
  | [d] => { results := [.lit (.bool false)], args := [d] }
  | _ => none }
def FnExactKeysOfWrongFalsely : Prop := fnExactKeysOfRow.holds Try.pinned (OpenSpec.ofChange fnExactKeysOfWrong)

/-- 'laws.FnExactDropKey': WHATEVER THE INPUT: true; the input reads as it did. -/
def fnExactDropKeySpec : ChangeSpec := { name := "fnExactDropKey", fn := fun _ => fun
  | [d1, d2] => { results := [.lit (.bool true)], args := [d1, d2] }
  | _ => none }
def fnExactDropKeyRow : OpenClaim := { program := "ythfmgmdabgcceaa", sum := "66497bcbb8e0aedd1df76734333521a74e9223ae8f69196f0046af1ec49a7424", func := "loop.example/g00166/laws.FnExactDropKey", spec := "fnExactDropKey", unfollowed := true, recurses := true, apart := false }
def FnExactDropKeySaid : Prop := fnExactDropKeyRow.holds Try.pinned (OpenSpec.ofChange fnExactDropKeySpec)

/-- ITS FALSE NEIGHBOUR: 'it returns false'. Refute it at one input. -/
def fnExactDropKeyWrong : ChangeSpec := { name := "fnExactDropKey", fn := fun _ => fun
  | [d1, d2] => { results := [.lit (.bool false)], args := [d1, d2] }
  | _ => none }
def FnExactDropKeyWrongFalsely : Prop := fnExactDropKeyRow.holds Try.pinned (OpenSpec.ofChange fnExactDropKeyWrong)

/-- 'laws.FnExactGetKey': WHATEVER THE INPUT: true; the input reads as it did. -/
def fnExactGetKeySpec : ChangeSpec := { name := "fnExactGetKey", fn := fun _ => fun
  | [d1, d2] => { results := [.lit (.bool true)], args := [d1, d2] }
  | _ => none }
def fnExactGetKeyRow : OpenClaim := { program := "ythfmgmdabgcceaa", sum := "66497bcbb8e0aedd1df76734333521a74e9223ae8f69196f0046af1ec49a7424", func := "loop.example/g00166/laws.FnExactGetKey", spec := "fnExactGetKey", unfollowed := true, recurses := true, apart := false }
def FnExactGetKeySaid : Prop := fnExactGetKeyRow.holds Try.pinned (OpenSpec.ofChange fnExactGetKeySpec)

/-- ITS FALSE NEIGHBOUR: 'it returns false'. Refute it at one input. -/
def fnExactGetKeyWrong : ChangeSpec := { name := "fnExactGetKey", fn := fun _ => fun
  | [d1, d2] => { results := [.lit (.bool false)], args := [d1, d2] }
  | _ => none }
def FnExactGetKeyWrongFalsely : Prop := fnExactGetKeyRow.holds Try.pinned (OpenSpec.ofChange fnExactGetKeyWrong)

/-- 'laws.FnExactGetAt': WHATEVER THE INPUT: true; the input reads as it did. -/
def fnExactGetAtSpec : ChangeSpec := { name := "fnExactGetAt", fn := fun _ => fun
  | [d1, d2] => { results := [.lit (.bool true)], args := [d1, d2] }
  | _ => none }
def fnExactGetAtRow : OpenClaim := { program := "ythfmgmdabgcceaa", sum := "66497bcbb8e0aedd1df76734333521a74e9223ae8f69196f0046af1ec49a7424", func := "loop.example/g00166/laws.FnExactGetAt", spec := "fnExactGetAt", unfollowed := true, recurses := true, apart := false }
def FnExactGetAtSaid : Prop := fnExactGetAtRow.holds Try.pinned (OpenSpec.ofChange fnExactGetAtSpec)

/-- ITS FALSE NEIGHBOUR: 'it returns false'. Refute it at one input. -/
def fnExactGetAtWrong : ChangeSpec := { name := "fnExactGetAt", fn := fun _ => fun
  | [d1, d2] => { results := [.lit (.bool false)], args := [d1, d2] }
  | _ => none }
def FnExactGetAtWrongFalsely : Prop := fnExactGetAtRow.holds Try.pinned (OpenSpec.ofChange fnExactGetAtWrong)

/-- 'laws.FnExactSetKey': WHATEVER THE INPUT: true; the input reads as it did. -/
def fnExactSetKeySpec : ChangeSpec := { name := "fnExactSetKey", fn := fun _ => fun
  | [d1, d2, d3] => { results := [.lit (.bool true)], args := [d1, d2, d3] }
  | _ => none }
def fnExactSetKeyRow : OpenClaim := { program := "ythfmgmdabgcceaa", sum := "66497bcbb8e0aedd1df76734333521a74e9223ae8f69196f0046af1ec49a7424", func := "loop.example/g00166/laws.FnExactSetKey", spec := "fnExactSetKey", unfollowed := true, recurses := true, apart := false }
def FnExactSetKeySaid : Prop := fnExactSetKeyRow.holds Try.pinned (OpenSpec.ofChange fnExactSetKeySpec)

/-- ITS FALSE NEIGHBOUR: 'it returns false'. Refute it at one input. -/
def fnExactSetKeyWrong : ChangeSpec := { name := "fnExactSetKey", fn := fun _ => fun
  | [d1, d2, d3] => { results := [.lit (.bool false)], args := [d1, d2, d3] }
  | _ => none }
def FnExactSetKeyWrongFalsely : Prop := fnExactSetKeyRow.holds Try.pinned (OpenSpec.ofChange fnExactSetKeyWrong)

/-- 'laws.FnExactObjectValue': WHATEVER THE INPUT: true; the input reads as it did. -/
def fnExactObjectValueSpec : ChangeSpec := { name := "fnExactObjectValue", fn := fun _ => fun
  | [d1, d2] => { results := [.lit (.bool true)], args := [d1, d2] }
  | _ => none }
def fnExactObjectValueRow : OpenClaim := { program := "ythfmgmdabgcceaa", sum := "66497bcbb8e0aedd1df76734333521a74e9223ae8f69196f0046af1ec49a7424", func := "loop.example/g00166/laws.FnExactObjectValue", spec := "fnExactObjectValue", unfollowed := true, recurses := true, apart := false }
def FnExactObjectValueSaid : Prop := fnExactObjectValueRow.holds Try.pinned (OpenSpec.ofChange fnExactObjectValueSpec)

/-- ITS FALSE NEIGHBOUR: 'it returns false'. Refute it at one input. -/
def fnExactObjectValueWrong : ChangeSpec := { name := "fnExactObjectValue", fn := fun _ => fun
  | [d1, d2] => { results := [.lit (.bool false)], args := [d1, d2] }
  | _ => none }
def FnExactObjectValueWrongFalsely : Prop := fnExactObjectValueRow.holds Try.pinned (OpenSpec.ofChange fnExactObjectValueWrong)

/-- 'laws.FnExactSortOf': WHATEVER THE INPUT: true; the input reads as it did. -/
def fnExactSortOfSpec : ChangeSpec := { name := "fnExactSortOf", fn := fun _ => fun
  | [d] => { results := [.lit (.bool true)], args := [d] }
  | _ => none }
def fnExactSortOfRow : OpenClaim := { program := "ythfmgmdabgcceaa", sum := "66497bcbb8e0aedd1df76734333521a74e9223ae8f69196f0046af1ec49a7424", func := "loop.example/g00166/laws.FnExactSortOf", spec := "fnExactSortOf", inPlace := ["internal/bytealg.abigen_runtime_cmpstring"], unfollowed := true, recurses := true, apart := false }
def FnExactSortOfSaid : Prop := fnExactSortOfRow.holds Try.pinned (OpenSpec.ofChange fnExactSortOfSpec)

/-- ITS FALSE NEIGHBOUR: 'it returns false'. Refute it at one input. -/
def fnExactSortOfWrong : ChangeSpec := { name := "fnExactSortOf", fn := fun _ => fun
  | [d] => { results := [.lit (.bool false)], args := [d] }
  | _ => none }
def FnExactSortOfWrongFalsely : Prop := fnExactSortOfRow.holds Try.pinned (OpenSpec.ofChange fnExactSortOfWrong)

/-- 'laws.FnSorts': WHATEVER THE INPUT: true; the input reads as it did. -/
def fnSortsSpec : ChangeSpec := { name := "fnSorts", fn := fun _ => fun
  | [d] => { results := [.lit (.bool true)], args := [d] }
  | _ => none }
def fnSortsRow : OpenClaim := { program := "ythfmgmdabgcceaa", sum := "66497bcbb8e0aedd1df76734333521a74e9223ae8f69196f0046af1ec49a7424", func := "loop.example/g00166/laws.FnSorts", spec := "fnSorts", inPlace := ["internal/bytealg.abigen_runtime_cmpstring"], unfollowed := true, recurses := true, apart := false }
def FnSortsSaid : Prop := fnSortsRow.holds Try.pinned (OpenSpec.ofChange fnSortsSpec)

/-- ITS FALSE NEIGHBOUR: 'it returns false'. Refute it at one input. -/
def fnSortsWrong : ChangeSpec := { name := "fnSorts", fn := fun _ => fun
  | [d] => { results := [.lit (.bool false)], args := [d] }
  | _ => none }
def FnSortsWrongFalsely : Prop := fnSortsRow.holds Try.pinned (OpenSpec.ofChange fnSortsWrong)

/-- 'laws.FnParts': WHATEVER THE INPUT: true; the input reads as it did. -/
def fnPartsSpec : ChangeSpec := { name := "fnParts", fn := fun _ => fun
  | [d] => { results := [.lit (.bool true)], args := [d] }
  | _ => none }
def fnPartsRow : OpenClaim := { program := "ythfmgmdabgcceaa", sum := "66497bcbb8e0aedd1df76734333521a74e9223ae8f69196f0046af1ec49a7424", func := "loop.example/g00166/laws.FnParts", spec := "fnParts", inPlace := ["internal/bytealg.abigen_runtime_cmpstring"], unfollowed := true, recurses := true, apart := false }
def FnPartsSaid : Prop := fnPartsRow.holds Try.pinned (OpenSpec.ofChange fnPartsSpec)

/-- ITS FALSE NEIGHBOUR: 'it returns false'. Refute it at one input. -/
def fnPartsWrong : ChangeSpec := { name := "fnParts", fn := fun _ => fun
  | [d] => { results := [.lit (.bool false)], args := [d] }
  | _ => none }
def FnPartsWrongFalsely : Prop := fnPartsRow.holds Try.pinned (OpenSpec.ofChange fnPartsWrong)

/-- 'laws.FnMembers': WHATEVER THE INPUT: true; the input reads as it did. -/
def fnMembersSpec : ChangeSpec := { name := "fnMembers", fn := fun _ => fun
  | [d] => { results := [.lit (.bool true)], args := [d] }
  | _ => none }
def fnMembersRow : OpenClaim := { program := "ythfmgmdabgcceaa", sum := "66497bcbb8e0aedd1df76734333521a74e9223ae8f69196f0046af1ec49a7424", func := "loop.example/g00166/laws.FnMembers", spec := "fnMembers", inPlace := ["internal/bytealg.abigen_runtime_cmpstring"], unfollowed := true, recurses := true, apart := false }
def FnMembersSaid : Prop := fnMembersRow.holds Try.pinned (OpenSpec.ofChange fnMembersSpec)

/-- ITS FALSE NEIGHBOUR: 'it returns false'. Refute it at one input. -/
def fnMembersWrong : ChangeSpec := { name := "fnMembers", fn := fun _ => fun
  | [d] => { results := [.lit (.bool false)], args := [d] }
  | _ => none }
def FnMembersWrongFalsely : Prop := fnMembersRow.holds Try.pinned (OpenSpec.ofChange fnMembersWrong)

/-- 'laws.FnExactAddAll': WHATEVER THE INPUT: true; the input reads as it did. -/
def fnExactAddAllSpec : ChangeSpec := { name := "fnExactAddAll", fn := fun _ => fun
  | [d] => { results := [.lit (.bool true)], args := [d] }
  | _ => none }
def fnExactAddAllRow : OpenClaim := { program := "ythfmgmdabgcceaa", sum := "66497bcbb8e0aedd1df76734333521a74e9223ae8f69196f0046af1ec49a7424", func := "loop.example/g00166/laws.FnExactAddAll", spec := "fnExactAddAll", unfollowed := true, recurses := true, apart := false }
def FnExactAddAllSaid : Prop := fnExactAddAllRow.holds Try.pinned (OpenSpec.ofChange fnExactAddAllSpec)

/-- ITS FALSE NEIGHBOUR: 'it returns false'. Refute it at one input. -/
def fnExactAddAllWrong : ChangeSpec := { name := "fnExactAddAll", fn := fun _ => fun
  | [d] => { results := [.lit (.bool false)], args := [d] }
  | _ => none }
def FnExactAddAllWrongFalsely : Prop := fnExactAddAllRow.holds Try.pinned (OpenSpec.ofChange fnExactAddAllWrong)

/- THE SECOND FORM. 'bulk': how many values and letters a reading holds, each counted each time it is reached (what is shared counts as often as it is met; a slice's spare places count too). A statement '..UptoSaid' is the law's where the arguments, and the package variables that the reading takes, are together of bulk at most 1048576: NARROWER than '..Said'. Prove '..Said' where nothing that the law and all that it calls make is longer than what came in: it says more and counts as full. Else prove '..UptoSaid'. A law counts once. -/
mutual
def uptoBulk {H : Type} : DataW H → Nat
  | .lit (.string bytes) => bytes.length + 1
  | .lit _ => 1
  | .nil => 1
  | .ptr d => uptoBulk d + 1
  | .slice elems spare => uptoBulkAll elems + uptoBulkAll spare + 1
  | .agg parts => uptoBulkAll parts + 1
  | .iface _ d => uptoBulk d + 1
  | .map entries => uptoBulkEntries entries + 1
  | .held _ => 1
def uptoBulkAll {H : Type} : List (DataW H) → Nat
  | [] => 0
  | d :: r => uptoBulk d + uptoBulkAll r
def uptoBulkEntries {H : Type} : List (Lit × DataW H) → Nat
  | [] => 0
  | x :: r => uptoBulkEntry x + uptoBulkEntries r
def uptoBulkEntry {H : Type} : Lit × DataW H → Nat
  | (.string bytes, d) => bytes.length + uptoBulk d + 1
  | (_, d) => uptoBulk d + 1
 end
def uptoSmall : (H : Type) → List (DataW H) → Bool := fun _ ds => decide (uptoBulkAll ds ≤ 1048576)
def OpenSpec.upto (s : _root_.Go.ChangeSpec) : _root_.Go.OpenSpec := { _root_.Go.OpenSpec.ofChange s with cond := some uptoSmall }

/-- 'laws.FnExactChildrenAt', WHERE WHAT IT READS IS OF BULK AT MOST 1048576: true; the input reads as it did. -/
def fnExactChildrenAtUptoRow : OpenClaim := { program := "ythfmgmdabgcceaa", sum := "66497bcbb8e0aedd1df76734333521a74e9223ae8f69196f0046af1ec49a7424", func := "loop.example/g00166/laws.FnExactChildrenAt", spec := "fnExactChildrenAt", recurses := true, apart := false, narrowed := true }
def FnExactChildrenAtUptoSaid : Prop := fnExactChildrenAtUptoRow.holds Try.pinned (OpenSpec.upto fnExactChildrenAtSpec)

/-- 'laws.FnExactPartAt', WHERE WHAT IT READS IS OF BULK AT MOST 1048576: true; the input reads as it did. -/
def fnExactPartAtUptoRow : OpenClaim := { program := "ythfmgmdabgcceaa", sum := "66497bcbb8e0aedd1df76734333521a74e9223ae8f69196f0046af1ec49a7424", func := "loop.example/g00166/laws.FnExactPartAt", spec := "fnExactPartAt", recurses := true, apart := false, narrowed := true }
def FnExactPartAtUptoSaid : Prop := fnExactPartAtUptoRow.holds Try.pinned (OpenSpec.upto fnExactPartAtSpec)

/-- 'laws.FnOrders', WHERE WHAT IT READS IS OF BULK AT MOST 1048576: true; the input reads as it did. -/
def fnOrdersUptoRow : OpenClaim := { program := "ythfmgmdabgcceaa", sum := "66497bcbb8e0aedd1df76734333521a74e9223ae8f69196f0046af1ec49a7424", func := "loop.example/g00166/laws.FnOrders", spec := "fnOrders", inPlace := ["internal/bytealg.abigen_runtime_cmpstring"], recurses := true, apart := false, narrowed := true }
def FnOrdersUptoSaid : Prop := fnOrdersUptoRow.holds Try.pinned (OpenSpec.upto fnOrdersSpec)

/-- 'laws.FnExactCompareValues', WHERE WHAT IT READS IS OF BULK AT MOST 1048576: true; the input reads as it did. -/
def fnExactCompareValuesUptoRow : OpenClaim := { program := "ythfmgmdabgcceaa", sum := "66497bcbb8e0aedd1df76734333521a74e9223ae8f69196f0046af1ec49a7424", func := "loop.example/g00166/laws.FnExactCompareValues", spec := "fnExactCompareValues", inPlace := ["internal/bytealg.abigen_runtime_cmpstring"], recurses := true, apart := false, narrowed := true }
def FnExactCompareValuesUptoSaid : Prop := fnExactCompareValuesUptoRow.holds Try.pinned (OpenSpec.upto fnExactCompareValuesSpec)

/-- 'laws.FnExactSameValues', WHERE WHAT IT READS IS OF BULK AT MOST 1048576: true; the input reads as it did. -/
def fnExactSameValuesUptoRow : OpenClaim := { program := "ythfmgmdabgcceaa", sum := "66497bcbb8e0aedd1df76734333521a74e9223ae8f69196f0046af1ec49a7424", func := "loop.example/g00166/laws.FnExactSameValues", spec := "fnExactSameValues", inPlace := ["internal/bytealg.abigen_runtime_cmpstring"], recurses := true, apart := false, narrowed := true }
def FnExactSameValuesUptoSaid : Prop := fnExactSameValuesUptoRow.holds Try.pinned (OpenSpec.upto fnExactSameValuesSpec)

/-- 'laws.FnExactEachOf', WHERE WHAT IT READS IS OF BULK AT MOST 1048576: true; the input reads as it did. -/
def fnExactEachOfUptoRow : OpenClaim := { program := "ythfmgmdabgcceaa", sum := "66497bcbb8e0aedd1df76734333521a74e9223ae8f69196f0046af1ec49a7424", func := "loop.example/g00166/laws.FnExactEachOf", spec := "fnExactEachOf", recurses := true, apart := false, narrowed := true }
def FnExactEachOfUptoSaid : Prop := fnExactEachOfUptoRow.holds Try.pinned (OpenSpec.upto fnExactEachOfSpec)

/-- 'laws.FnExactDeepOf', WHERE WHAT IT READS IS OF BULK AT MOST 1048576: true; the input reads as it did. -/
def fnExactDeepOfUptoRow : OpenClaim := { program := "ythfmgmdabgcceaa", sum := "66497bcbb8e0aedd1df76734333521a74e9223ae8f69196f0046af1ec49a7424", func := "loop.example/g00166/laws.FnExactDeepOf", spec := "fnExactDeepOf", unfollowed := true, recurses := true, apart := false, narrowed := true }
def FnExactDeepOfUptoSaid : Prop := fnExactDeepOfUptoRow.holds Try.pinned (OpenSpec.upto fnExactDeepOfSpec)

/-- 'laws.FnExactGetIndex', WHERE WHAT IT READS IS OF BULK AT MOST 1048576: true; the input reads as it did. -/
def fnExactGetIndexUptoRow : OpenClaim := { program := "ythfmgmdabgcceaa", sum := "66497bcbb8e0aedd1df76734333521a74e9223ae8f69196f0046af1ec49a7424", func := "loop.example/g00166/laws.FnExactGetIndex", spec := "fnExactGetIndex", unfollowed := true, recurses := true, apart := false, narrowed := true }
def FnExactGetIndexUptoSaid : Prop := fnExactGetIndexUptoRow.holds Try.pinned (OpenSpec.upto fnExactGetIndexSpec)

/-- 'laws.FnExactArrayValue', WHERE WHAT IT READS IS OF BULK AT MOST 1048576: true; the input reads as it did. -/
def fnExactArrayValueUptoRow : OpenClaim := { program := "ythfmgmdabgcceaa", sum := "66497bcbb8e0aedd1df76734333521a74e9223ae8f69196f0046af1ec49a7424", func := "loop.example/g00166/laws.FnExactArrayValue", spec := "fnExactArrayValue", recurses := true, apart := false, narrowed := true }
def FnExactArrayValueUptoSaid : Prop := fnExactArrayValueUptoRow.holds Try.pinned (OpenSpec.upto fnExactArrayValueSpec)

/-- 'laws.FnExactKeysOf', WHERE WHAT IT READS IS OF BULK AT MOST 1048576: true; the input reads as it did. -/
def fnExactKeysOfUptoRow : OpenClaim := { program := "ythfmgmdabgcceaa", sum := "66497bcbb8e0aedd1df76734333521a74e9223ae8f69196f0046af1ec49a7424", func := "loop.example/g00166/laws.FnExactKeysOf", spec := "fnExactKeysOf", unfollowed := true, recurses := true, apart := false, narrowed := true }
def FnExactKeysOfUptoSaid : Prop := fnExactKeysOfUptoRow.holds Try.pinned (OpenSpec.upto fnExactKeysOfSpec)

/-- 'laws.FnExactDropKey', WHERE WHAT IT READS IS OF BULK AT MOST 1048576: true; the input reads as it did. -/
def fnExactDropKeyUptoRow : OpenClaim := { program := "ythfmgmdabgcceaa", sum := "66497bcbb8e0aedd1df76734333521a74e9223ae8f69196f0046af1ec49a7424", func := "loop.example/g00166/laws.FnExactDropKey", spec := "fnExactDropKey", unfollowed := true, recurses := true, apart := false, narrowed := true }
def FnExactDropKeyUptoSaid : Prop := fnExactDropKeyUptoRow.holds Try.pinned (OpenSpec.upto fnExactDropKeySpec)

/-- 'laws.FnExactGetKey', WHERE WHAT IT READS IS OF BULK AT MOST 1048576: true; the input reads as it did. -/
def fnExactGetKeyUptoRow : OpenClaim := { program := "ythfmgmdabgcceaa", sum := "66497bcbb8e0aedd1df76734333521a74e9223ae8f69196f0046af1ec49a7424", func := "loop.example/g00166/laws.FnExactGetKey", spec := "fnExactGetKey", unfollowed := true, recurses := true, apart := false, narrowed := true }
def FnExactGetKeyUptoSaid : Prop := fnExactGetKeyUptoRow.holds Try.pinned (OpenSpec.upto fnExactGetKeySpec)

/-- 'laws.FnExactGetAt', WHERE WHAT IT READS IS OF BULK AT MOST 1048576: true; the input reads as it did. -/
def fnExactGetAtUptoRow : OpenClaim := { program := "ythfmgmdabgcceaa", sum := "66497bcbb8e0aedd1df76734333521a74e9223ae8f69196f0046af1ec49a7424", func := "loop.example/g00166/laws.FnExactGetAt", spec := "fnExactGetAt", unfollowed := true, recurses := true, apart := false, narrowed := true }
def FnExactGetAtUptoSaid : Prop := fnExactGetAtUptoRow.holds Try.pinned (OpenSpec.upto fnExactGetAtSpec)

/-- 'laws.FnExactSetKey', WHERE WHAT IT READS IS OF BULK AT MOST 1048576: true; the input reads as it did. -/
def fnExactSetKeyUptoRow : OpenClaim := { program := "ythfmgmdabgcceaa", sum := "66497bcbb8e0aedd1df76734333521a74e9223ae8f69196f0046af1ec49a7424", func := "loop.example/g00166/laws.FnExactSetKey", spec := "fnExactSetKey", unfollowed := true, recurses := true, apart := false, narrowed := true }
def FnExactSetKeyUptoSaid : Prop := fnExactSetKeyUptoRow.holds Try.pinned (OpenSpec.upto fnExactSetKeySpec)

/-- 'laws.FnExactObjectValue', WHERE WHAT IT READS IS OF BULK AT MOST 1048576: true; the input reads as it did. -/
def fnExactObjectValueUptoRow : OpenClaim := { program := "ythfmgmdabgcceaa", sum := "66497bcbb8e0aedd1df76734333521a74e9223ae8f69196f0046af1ec49a7424", func := "loop.example/g00166/laws.FnExactObjectValue", spec := "fnExactObjectValue", unfollowed := true, recurses := true, apart := false, narrowed := true }
def FnExactObjectValueUptoSaid : Prop := fnExactObjectValueUptoRow.holds Try.pinned (OpenSpec.upto fnExactObjectValueSpec)

/-- 'laws.FnExactSortOf', WHERE WHAT IT READS IS OF BULK AT MOST 1048576: true; the input reads as it did. -/
def fnExactSortOfUptoRow : OpenClaim := { program := "ythfmgmdabgcceaa", sum := "66497bcbb8e0aedd1df76734333521a74e9223ae8f69196f0046af1ec49a7424", func := "loop.example/g00166/laws.FnExactSortOf", spec := "fnExactSortOf", inPlace := ["internal/bytealg.abigen_runtime_cmpstring"], unfollowed := true, recurses := true, apart := false, narrowed := true }
def FnExactSortOfUptoSaid : Prop := fnExactSortOfUptoRow.holds Try.pinned (OpenSpec.upto fnExactSortOfSpec)

/-- 'laws.FnSorts', WHERE WHAT IT READS IS OF BULK AT MOST 1048576: true; the input reads as it did. -/
def fnSortsUptoRow : OpenClaim := { program := "ythfmgmdabgcceaa", sum := "66497bcbb8e0aedd1df76734333521a74e9223ae8f69196f0046af1ec49a7424", func := "loop.example/g00166/laws.FnSorts", spec := "fnSorts", inPlace := ["internal/bytealg.abigen_runtime_cmpstring"], unfollowed := true, recurses := true, apart := false, narrowed := true }
def FnSortsUptoSaid : Prop := fnSortsUptoRow.holds Try.pinned (OpenSpec.upto fnSortsSpec)

/-- 'laws.FnParts', WHERE WHAT IT READS IS OF BULK AT MOST 1048576: true; the input reads as it did. -/
def fnPartsUptoRow : OpenClaim := { program := "ythfmgmdabgcceaa", sum := "66497bcbb8e0aedd1df76734333521a74e9223ae8f69196f0046af1ec49a7424", func := "loop.example/g00166/laws.FnParts", spec := "fnParts", inPlace := ["internal/bytealg.abigen_runtime_cmpstring"], unfollowed := true, recurses := true, apart := false, narrowed := true }
def FnPartsUptoSaid : Prop := fnPartsUptoRow.holds Try.pinned (OpenSpec.upto fnPartsSpec)

/-- 'laws.FnMembers', WHERE WHAT IT READS IS OF BULK AT MOST 1048576: true; the input reads as it did. -/
def fnMembersUptoRow : OpenClaim := { program := "ythfmgmdabgcceaa", sum := "66497bcbb8e0aedd1df76734333521a74e9223ae8f69196f0046af1ec49a7424", func := "loop.example/g00166/laws.FnMembers", spec := "fnMembers", inPlace := ["internal/bytealg.abigen_runtime_cmpstring"], unfollowed := true, recurses := true, apart := false, narrowed := true }
def FnMembersUptoSaid : Prop := fnMembersUptoRow.holds Try.pinned (OpenSpec.upto fnMembersSpec)

/-- 'laws.FnExactAddAll', WHERE WHAT IT READS IS OF BULK AT MOST 1048576: true; the input reads as it did. -/
def fnExactAddAllUptoRow : OpenClaim := { program := "ythfmgmdabgcceaa", sum := "66497bcbb8e0aedd1df76734333521a74e9223ae8f69196f0046af1ec49a7424", func := "loop.example/g00166/laws.FnExactAddAll", spec := "fnExactAddAll", unfollowed := true, recurses := true, apart := false, narrowed := true }
def FnExactAddAllUptoSaid : Prop := fnExactAddAllUptoRow.holds Try.pinned (OpenSpec.upto fnExactAddAllSpec)

end Rows
end Go.Proofs.Ythfmgmdabgcceaa
