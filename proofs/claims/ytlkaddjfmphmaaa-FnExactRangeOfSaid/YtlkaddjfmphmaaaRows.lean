/-
  No cell of these rows narrows 'for every input' (looked for: loops, veiled, ifaces, maps, wideKeys, modest, calm, conditions, laid).
  DERIVED. THE GIVEN ROWS OF THIS SEAT. 20 by the template 'for every input the law returns true; each argument reads behind the call as it read before'; 0 by the template 'total and deterministic' (their statements: YtlkaddjfmphmaaaTotals.lean).
  GIVEN WITH THE SEED: the statements are not yours to turn. If you find one false, say at which input.
  Laid BY PROGRAM, IN A SANDBOX (cutbox-rows.mjs): the forced cells as the released guide's own fill.sh prints them over the translation 5126bd07142a7f91… (all of the seat's roots in one cut). By AI agents, Wed Nov 11 2026. No macro, syntax, notation, axiom, sorry.
-/
import Derived.Test.YtlkaddjfmphmaaaChecked
import GoSem.Claim
import GoSem.ClaimJoined
import GoSem.ClaimMapViews
import Derived.JoinedTies
import Derived.KernelRfl
namespace Go.Proofs.Ytlkaddjfmphmaaa
/- THE CELL 'sum', in the pinned program and in every row, IS THE sha256 OF THE DUMP (.gsa) THAT YtlkaddjfmphmaaaProg.lean LOADS. Nothing in Lean hashes anything: it is a label: what it is worth is what the hold of that sum in a sandbox is worth. -/
noncomputable def Try.pinned : Pinned := { name := "ytlkaddjfmphmaaa", sum := "5126bd07142a7f915773e561c12d9e4ef91f7afee23af1f36881bcabaad0755a", checked := Try.checked }
namespace Rows
def none {H : Type} : Left H := { results := [], args := [] }

/-- 'laws.FnExactValueFault': WHATEVER THE INPUT: true; the input reads as it did. -/
def fnExactValueFaultSpec : ChangeSpec := { name := "fnExactValueFault", fn := fun _ => fun
  | [d] => { results := [.lit (.bool true)], args := [d] }
  | _ => none }
def fnExactValueFaultRow : OpenClaim := { program := "ytlkaddjfmphmaaa", sum := "5126bd07142a7f915773e561c12d9e4ef91f7afee23af1f36881bcabaad0755a", func := "loop.example/g00166/laws.FnExactValueFault", spec := "fnExactValueFault", recurses := true, apart := false }
def FnExactValueFaultSaid : Prop := fnExactValueFaultRow.holds Try.pinned (OpenSpec.ofChange fnExactValueFaultSpec)

/-- ITS FALSE NEIGHBOUR: 'it returns false'. Refute it at one input. -/
def fnExactValueFaultWrong : ChangeSpec := { name := "fnExactValueFault", fn := fun _ => fun
  | [d] => { results := [.lit (.bool false)], args := [d] }
  | _ => none }
def FnExactValueFaultWrongFalsely : Prop := fnExactValueFaultRow.holds Try.pinned (OpenSpec.ofChange fnExactValueFaultWrong)

/-- 'laws.FnExactTruthy': WHATEVER THE INPUT: true; the input reads as it did. -/
def fnExactTruthySpec : ChangeSpec := { name := "fnExactTruthy", fn := fun _ => fun
  | [d] => { results := [.lit (.bool true)], args := [d] }
  | _ => none }
def fnExactTruthyRow : OpenClaim := { program := "ytlkaddjfmphmaaa", sum := "5126bd07142a7f915773e561c12d9e4ef91f7afee23af1f36881bcabaad0755a", func := "loop.example/g00166/laws.FnExactTruthy", spec := "fnExactTruthy", recurses := true, apart := false }
def FnExactTruthySaid : Prop := fnExactTruthyRow.holds Try.pinned (OpenSpec.ofChange fnExactTruthySpec)

/-- ITS FALSE NEIGHBOUR: 'it returns false'. Refute it at one input. -/
def fnExactTruthyWrong : ChangeSpec := { name := "fnExactTruthy", fn := fun _ => fun
  | [d] => { results := [.lit (.bool false)], args := [d] }
  | _ => none }
def FnExactTruthyWrongFalsely : Prop := fnExactTruthyRow.holds Try.pinned (OpenSpec.ofChange fnExactTruthyWrong)

/-- 'laws.FnExactNumberValue': WHATEVER THE INPUT: true; the input reads as it did. -/
def fnExactNumberValueSpec : ChangeSpec := { name := "fnExactNumberValue", fn := fun _ => fun
  | [d] => { results := [.lit (.bool true)], args := [d] }
  | _ => none }
def fnExactNumberValueRow : OpenClaim := { program := "ytlkaddjfmphmaaa", sum := "5126bd07142a7f915773e561c12d9e4ef91f7afee23af1f36881bcabaad0755a", func := "loop.example/g00166/laws.FnExactNumberValue", spec := "fnExactNumberValue", recurses := true, apart := false }
def FnExactNumberValueSaid : Prop := fnExactNumberValueRow.holds Try.pinned (OpenSpec.ofChange fnExactNumberValueSpec)

/-- ITS FALSE NEIGHBOUR: 'it returns false'. Refute it at one input. -/
def fnExactNumberValueWrong : ChangeSpec := { name := "fnExactNumberValue", fn := fun _ => fun
  | [d] => { results := [.lit (.bool false)], args := [d] }
  | _ => none }
def FnExactNumberValueWrongFalsely : Prop := fnExactNumberValueRow.holds Try.pinned (OpenSpec.ofChange fnExactNumberValueWrong)

/-- 'laws.FnExactStringValue': WHATEVER THE INPUT: true; the input reads as it did. -/
def fnExactStringValueSpec : ChangeSpec := { name := "fnExactStringValue", fn := fun _ => fun
  | [d] => { results := [.lit (.bool true)], args := [d] }
  | _ => none }
def fnExactStringValueRow : OpenClaim := { program := "ytlkaddjfmphmaaa", sum := "5126bd07142a7f915773e561c12d9e4ef91f7afee23af1f36881bcabaad0755a", func := "loop.example/g00166/laws.FnExactStringValue", spec := "fnExactStringValue", recurses := true, apart := false }
def FnExactStringValueSaid : Prop := fnExactStringValueRow.holds Try.pinned (OpenSpec.ofChange fnExactStringValueSpec)

/-- ITS FALSE NEIGHBOUR: 'it returns false'. Refute it at one input. -/
def fnExactStringValueWrong : ChangeSpec := { name := "fnExactStringValue", fn := fun _ => fun
  | [d] => { results := [.lit (.bool false)], args := [d] }
  | _ => none }
def FnExactStringValueWrongFalsely : Prop := fnExactStringValueRow.holds Try.pinned (OpenSpec.ofChange fnExactStringValueWrong)

/-- 'laws.FnExactDepthOf': WHATEVER THE INPUT: true; the input reads as it did. -/
def fnExactDepthOfSpec : ChangeSpec := { name := "fnExactDepthOf", fn := fun _ => fun
  | [d] => { results := [.lit (.bool true)], args := [d] }
  | _ => none }
def fnExactDepthOfRow : OpenClaim := { program := "ytlkaddjfmphmaaa", sum := "5126bd07142a7f915773e561c12d9e4ef91f7afee23af1f36881bcabaad0755a", func := "loop.example/g00166/laws.FnExactDepthOf", spec := "fnExactDepthOf", recurses := true, apart := false }
def FnExactDepthOfSaid : Prop := fnExactDepthOfRow.holds Try.pinned (OpenSpec.ofChange fnExactDepthOfSpec)

/-- ITS FALSE NEIGHBOUR: 'it returns false'. Refute it at one input. -/
def fnExactDepthOfWrong : ChangeSpec := { name := "fnExactDepthOf", fn := fun _ => fun
  | [d] => { results := [.lit (.bool false)], args := [d] }
  | _ => none }
def FnExactDepthOfWrongFalsely : Prop := fnExactDepthOfRow.holds Try.pinned (OpenSpec.ofChange fnExactDepthOfWrong)

/-- 'laws.FnExactRangeOf': WHATEVER THE INPUT: true; the input reads as it did. -/
def fnExactRangeOfSpec : ChangeSpec := { name := "fnExactRangeOf", fn := fun _ => fun
  | [d] => { results := [.lit (.bool true)], args := [d] }
  | _ => none }
def fnExactRangeOfRow : OpenClaim := { program := "ytlkaddjfmphmaaa", sum := "5126bd07142a7f915773e561c12d9e4ef91f7afee23af1f36881bcabaad0755a", func := "loop.example/g00166/laws.FnExactRangeOf", spec := "fnExactRangeOf", recurses := true, apart := false }
def FnExactRangeOfSaid : Prop := fnExactRangeOfRow.holds Try.pinned (OpenSpec.ofChange fnExactRangeOfSpec)

/-- ITS FALSE NEIGHBOUR: 'it returns false'. Refute it at one input. -/
def fnExactRangeOfWrong : ChangeSpec := { name := "fnExactRangeOf", fn := fun _ => fun
  | [d] => { results := [.lit (.bool false)], args := [d] }
  | _ => none }
def FnExactRangeOfWrongFalsely : Prop := fnExactRangeOfRow.holds Try.pinned (OpenSpec.ofChange fnExactRangeOfWrong)

/-- 'laws.FnExactEndAt': WHATEVER THE INPUT: true; the input reads as it did. -/
def fnExactEndAtSpec : ChangeSpec := { name := "fnExactEndAt", fn := fun _ => fun
  | [d1, d2] => { results := [.lit (.bool true)], args := [d1, d2] }
  | _ => none }
def fnExactEndAtRow : OpenClaim := { program := "ytlkaddjfmphmaaa", sum := "5126bd07142a7f915773e561c12d9e4ef91f7afee23af1f36881bcabaad0755a", func := "loop.example/g00166/laws.FnExactEndAt", spec := "fnExactEndAt", recurses := true, apart := false }
def FnExactEndAtSaid : Prop := fnExactEndAtRow.holds Try.pinned (OpenSpec.ofChange fnExactEndAtSpec)

/-- ITS FALSE NEIGHBOUR: 'it returns false'. Refute it at one input. -/
def fnExactEndAtWrong : ChangeSpec := { name := "fnExactEndAt", fn := fun _ => fun
  | [d1, d2] => { results := [.lit (.bool false)], args := [d1, d2] }
  | _ => none }
def FnExactEndAtWrongFalsely : Prop := fnExactEndAtRow.holds Try.pinned (OpenSpec.ofChange fnExactEndAtWrong)

/-- 'laws.FnExactChildrenAt': WHATEVER THE INPUT: true; the input reads as it did. -/
def fnExactChildrenAtSpec : ChangeSpec := { name := "fnExactChildrenAt", fn := fun _ => fun
  | [d1, d2] => { results := [.lit (.bool true)], args := [d1, d2] }
  | _ => none }
def fnExactChildrenAtRow : OpenClaim := { program := "ytlkaddjfmphmaaa", sum := "5126bd07142a7f915773e561c12d9e4ef91f7afee23af1f36881bcabaad0755a", func := "loop.example/g00166/laws.FnExactChildrenAt", spec := "fnExactChildrenAt", recurses := true, apart := false }
def FnExactChildrenAtSaid : Prop := fnExactChildrenAtRow.holds Try.pinned (OpenSpec.ofChange fnExactChildrenAtSpec)

/-- ITS FALSE NEIGHBOUR: 'it returns false'. Refute it at one input. -/
def fnExactChildrenAtWrong : ChangeSpec := { name := "fnExactChildrenAt", fn := fun _ => fun
  | [d1, d2] => { results := [.lit (.bool false)], args := [d1, d2] }
  | _ => none }
def FnExactChildrenAtWrongFalsely : Prop := fnExactChildrenAtRow.holds Try.pinned (OpenSpec.ofChange fnExactChildrenAtWrong)

/-- 'laws.FnExactPartAt': WHATEVER THE INPUT: true; the input reads as it did. -/
def fnExactPartAtSpec : ChangeSpec := { name := "fnExactPartAt", fn := fun _ => fun
  | [d1, d2] => { results := [.lit (.bool true)], args := [d1, d2] }
  | _ => none }
def fnExactPartAtRow : OpenClaim := { program := "ytlkaddjfmphmaaa", sum := "5126bd07142a7f915773e561c12d9e4ef91f7afee23af1f36881bcabaad0755a", func := "loop.example/g00166/laws.FnExactPartAt", spec := "fnExactPartAt", recurses := true, apart := false }
def FnExactPartAtSaid : Prop := fnExactPartAtRow.holds Try.pinned (OpenSpec.ofChange fnExactPartAtSpec)

/-- ITS FALSE NEIGHBOUR: 'it returns false'. Refute it at one input. -/
def fnExactPartAtWrong : ChangeSpec := { name := "fnExactPartAt", fn := fun _ => fun
  | [d1, d2] => { results := [.lit (.bool false)], args := [d1, d2] }
  | _ => none }
def FnExactPartAtWrongFalsely : Prop := fnExactPartAtRow.holds Try.pinned (OpenSpec.ofChange fnExactPartAtWrong)

/-- 'laws.FnExactTypeOf': WHATEVER THE INPUT: true; the input reads as it did. -/
def fnExactTypeOfSpec : ChangeSpec := { name := "fnExactTypeOf", fn := fun _ => fun
  | [d] => { results := [.lit (.bool true)], args := [d] }
  | _ => none }
def fnExactTypeOfRow : OpenClaim := { program := "ytlkaddjfmphmaaa", sum := "5126bd07142a7f915773e561c12d9e4ef91f7afee23af1f36881bcabaad0755a", func := "loop.example/g00166/laws.FnExactTypeOf", spec := "fnExactTypeOf", unfollowed := true, recurses := true, apart := false }
def FnExactTypeOfSaid : Prop := fnExactTypeOfRow.holds Try.pinned (OpenSpec.ofChange fnExactTypeOfSpec)

/-- ITS FALSE NEIGHBOUR: 'it returns false'. Refute it at one input. -/
def fnExactTypeOfWrong : ChangeSpec := { name := "fnExactTypeOf", fn := fun _ => fun
  | [d] => { results := [.lit (.bool false)], args := [d] }
  | _ => none }
def FnExactTypeOfWrongFalsely : Prop := fnExactTypeOfRow.holds Try.pinned (OpenSpec.ofChange fnExactTypeOfWrong)

/-- 'laws.FnOrders': WHATEVER THE INPUT: true; the input reads as it did. -/
def fnOrdersSpec : ChangeSpec := { name := "fnOrders", fn := fun _ => fun
  | [d] => { results := [.lit (.bool true)], args := [d] }
  | _ => none }
def fnOrdersRow : OpenClaim := { program := "ytlkaddjfmphmaaa", sum := "5126bd07142a7f915773e561c12d9e4ef91f7afee23af1f36881bcabaad0755a", func := "loop.example/g00166/laws.FnOrders", spec := "fnOrders", inPlace := ["internal/bytealg.abigen_runtime_cmpstring"], recurses := true, apart := false }
def FnOrdersSaid : Prop := fnOrdersRow.holds Try.pinned (OpenSpec.ofChange fnOrdersSpec)

/-- ITS FALSE NEIGHBOUR: 'it returns false'. Refute it at one input. -/
def fnOrdersWrong : ChangeSpec := { name := "fnOrders", fn := fun _ => fun
  | [d] => { results := [.lit (.bool false)], args := [d] }
  | _ => none }
def FnOrdersWrongFalsely : Prop := fnOrdersRow.holds Try.pinned (OpenSpec.ofChange fnOrdersWrong)

/-- 'laws.FnExactCompareValues': WHATEVER THE INPUT: true; the input reads as it did. -/
def fnExactCompareValuesSpec : ChangeSpec := { name := "fnExactCompareValues", fn := fun _ => fun
  | [d1, d2] => { results := [.lit (.bool true)], args := [d1, d2] }
  | _ => none }
def fnExactCompareValuesRow : OpenClaim := { program := "ytlkaddjfmphmaaa", sum := "5126bd07142a7f915773e561c12d9e4ef91f7afee23af1f36881bcabaad0755a", func := "loop.example/g00166/laws.FnExactCompareValues", spec := "fnExactCompareValues", inPlace := ["internal/bytealg.abigen_runtime_cmpstring"], recurses := true, apart := false }
def FnExactCompareValuesSaid : Prop := fnExactCompareValuesRow.holds Try.pinned (OpenSpec.ofChange fnExactCompareValuesSpec)

/-- ITS FALSE NEIGHBOUR: 'it returns false'. Refute it at one input. -/
def fnExactCompareValuesWrong : ChangeSpec := { name := "fnExactCompareValues", fn := fun _ => fun
  | [d1, d2] => { results := [.lit (.bool false)], args := [d1, d2] }
  | _ => none }
def FnExactCompareValuesWrongFalsely : Prop := fnExactCompareValuesRow.holds Try.pinned (OpenSpec.ofChange fnExactCompareValuesWrong)

/-- 'laws.FnExactSameValues': WHATEVER THE INPUT: true; the input reads as it did. -/
def fnExactSameValuesSpec : ChangeSpec := { name := "fnExactSameValues", fn := fun _ => fun
  | [d1, d2] => { results := [.lit (.bool true)], args := [d1, d2] }
  | _ => none }
def fnExactSameValuesRow : OpenClaim := { program := "ytlkaddjfmphmaaa", sum := "5126bd07142a7f915773e561c12d9e4ef91f7afee23af1f36881bcabaad0755a", func := "loop.example/g00166/laws.FnExactSameValues", spec := "fnExactSameValues", inPlace := ["internal/bytealg.abigen_runtime_cmpstring"], recurses := true, apart := false }
def FnExactSameValuesSaid : Prop := fnExactSameValuesRow.holds Try.pinned (OpenSpec.ofChange fnExactSameValuesSpec)

/-- ITS FALSE NEIGHBOUR: 'it returns false'. Refute it at one input. -/
def fnExactSameValuesWrong : ChangeSpec := { name := "fnExactSameValues", fn := fun _ => fun
  | [d1, d2] => { results := [.lit (.bool false)], args := [d1, d2] }
  | _ => none }
def FnExactSameValuesWrongFalsely : Prop := fnExactSameValuesRow.holds Try.pinned (OpenSpec.ofChange fnExactSameValuesWrong)

/-- 'laws.FnExactLengthOf': WHATEVER THE INPUT: true; the input reads as it did. -/
def fnExactLengthOfSpec : ChangeSpec := { name := "fnExactLengthOf", fn := fun _ => fun
  | [d] => { results := [.lit (.bool true)], args := [d] }
  | _ => none }
def fnExactLengthOfRow : OpenClaim := { program := "ytlkaddjfmphmaaa", sum := "5126bd07142a7f915773e561c12d9e4ef91f7afee23af1f36881bcabaad0755a", func := "loop.example/g00166/laws.FnExactLengthOf", spec := "fnExactLengthOf", unfollowed := true, recurses := true, apart := false }
def FnExactLengthOfSaid : Prop := fnExactLengthOfRow.holds Try.pinned (OpenSpec.ofChange fnExactLengthOfSpec)

/-- ITS FALSE NEIGHBOUR: 'it returns false'. Refute it at one input. -/
def fnExactLengthOfWrong : ChangeSpec := { name := "fnExactLengthOf", fn := fun _ => fun
  | [d] => { results := [.lit (.bool false)], args := [d] }
  | _ => none }
def FnExactLengthOfWrongFalsely : Prop := fnExactLengthOfRow.holds Try.pinned (OpenSpec.ofChange fnExactLengthOfWrong)

/-- 'laws.FnExactEachOf': WHATEVER THE INPUT: true; the input reads as it did. -/
def fnExactEachOfSpec : ChangeSpec := { name := "fnExactEachOf", fn := fun _ => fun
  | [d] => { results := [.lit (.bool true)], args := [d] }
  | _ => none }
def fnExactEachOfRow : OpenClaim := { program := "ytlkaddjfmphmaaa", sum := "5126bd07142a7f915773e561c12d9e4ef91f7afee23af1f36881bcabaad0755a", func := "loop.example/g00166/laws.FnExactEachOf", spec := "fnExactEachOf", recurses := true, apart := false }
def FnExactEachOfSaid : Prop := fnExactEachOfRow.holds Try.pinned (OpenSpec.ofChange fnExactEachOfSpec)

/-- ITS FALSE NEIGHBOUR: 'it returns false'. Refute it at one input. -/
def fnExactEachOfWrong : ChangeSpec := { name := "fnExactEachOf", fn := fun _ => fun
  | [d] => { results := [.lit (.bool false)], args := [d] }
  | _ => none }
def FnExactEachOfWrongFalsely : Prop := fnExactEachOfRow.holds Try.pinned (OpenSpec.ofChange fnExactEachOfWrong)

/-- 'laws.FnExactGetIndex': WHATEVER THE INPUT: true; the input reads as it did. -/
def fnExactGetIndexSpec : ChangeSpec := { name := "fnExactGetIndex", fn := fun _ => fun
  | [d1, d2] => { results := [.lit (.bool true)], args := [d1, d2] }
  | _ => none }
def fnExactGetIndexRow : OpenClaim := { program := "ytlkaddjfmphmaaa", sum := "5126bd07142a7f915773e561c12d9e4ef91f7afee23af1f36881bcabaad0755a", func := "loop.example/g00166/laws.FnExactGetIndex", spec := "fnExactGetIndex", unfollowed := true, recurses := true, apart := false }
def FnExactGetIndexSaid : Prop := fnExactGetIndexRow.holds Try.pinned (OpenSpec.ofChange fnExactGetIndexSpec)

/-- ITS FALSE NEIGHBOUR: 'it returns false'. Refute it at one input. -/
def fnExactGetIndexWrong : ChangeSpec := { name := "fnExactGetIndex", fn := fun _ => fun
  | [d1, d2] => { results := [.lit (.bool false)], args := [d1, d2] }
  | _ => none }
def FnExactGetIndexWrongFalsely : Prop := fnExactGetIndexRow.holds Try.pinned (OpenSpec.ofChange fnExactGetIndexWrong)

/-- 'laws.FnExactArrayValue': WHATEVER THE INPUT: true; the input reads as it did. -/
def fnExactArrayValueSpec : ChangeSpec := { name := "fnExactArrayValue", fn := fun _ => fun
  | [d] => { results := [.lit (.bool true)], args := [d] }
  | _ => none }
def fnExactArrayValueRow : OpenClaim := { program := "ytlkaddjfmphmaaa", sum := "5126bd07142a7f915773e561c12d9e4ef91f7afee23af1f36881bcabaad0755a", func := "loop.example/g00166/laws.FnExactArrayValue", spec := "fnExactArrayValue", recurses := true, apart := false }
def FnExactArrayValueSaid : Prop := fnExactArrayValueRow.holds Try.pinned (OpenSpec.ofChange fnExactArrayValueSpec)

/-- ITS FALSE NEIGHBOUR: 'it returns false'. Refute it at one input. -/
def fnExactArrayValueWrong : ChangeSpec := { name := "fnExactArrayValue", fn := fun _ => fun
  | [d] => { results := [.lit (.bool false)], args := [d] }
  | _ => none }
def FnExactArrayValueWrongFalsely : Prop := fnExactArrayValueRow.holds Try.pinned (OpenSpec.ofChange fnExactArrayValueWrong)

/-- 'laws.FnExactKeysOf': WHATEVER THE INPUT: true; the input reads as it did. -/
def fnExactKeysOfSpec : ChangeSpec := { name := "fnExactKeysOf", fn := fun _ => fun
  | [d] => { results := [.lit (.bool true)], args := [d] }
  | _ => none }
def fnExactKeysOfRow : OpenClaim := { program := "ytlkaddjfmphmaaa", sum := "5126bd07142a7f915773e561c12d9e4ef91f7afee23af1f36881bcabaad0755a", func := "loop.example/g00166/laws.FnExactKeysOf", spec := "fnExactKeysOf", unfollowed := true, recurses := true, apart := false }
def FnExactKeysOfSaid : Prop := fnExactKeysOfRow.holds Try.pinned (OpenSpec.ofChange fnExactKeysOfSpec)

/-- ITS FALSE NEIGHBOUR: 'it returns false'. Refute it at one input. -/
def fnExactKeysOfWrong : ChangeSpec := { name := "fnExactKeysOf", fn := fun _ => fun
  | [d] => { results := [.lit (.bool false)], args := [d] }
  | _ => none }
def FnExactKeysOfWrongFalsely : Prop := fnExactKeysOfRow.holds Try.pinned (OpenSpec.ofChange fnExactKeysOfWrong)

/-- 'laws.FnExactDropKey': WHATEVER THE INPUT: true; the input reads as it did. -/
def fnExactDropKeySpec : ChangeSpec := { name := "fnExactDropKey", fn := fun _ => fun
  | [d1, d2] => { results := [.lit (.bool true)], args := [d1, d2] }
  | _ => none }
def fnExactDropKeyRow : OpenClaim := { program := "ytlkaddjfmphmaaa", sum := "5126bd07142a7f915773e561c12d9e4ef91f7afee23af1f36881bcabaad0755a", func := "loop.example/g00166/laws.FnExactDropKey", spec := "fnExactDropKey", unfollowed := true, recurses := true, apart := false }
def FnExactDropKeySaid : Prop := fnExactDropKeyRow.holds Try.pinned (OpenSpec.ofChange fnExactDropKeySpec)

/-- ITS FALSE NEIGHBOUR: 'it returns false'. Refute it at one input. -/
def fnExactDropKeyWrong : ChangeSpec := { name := "fnExactDropKey", fn := fun _ => fun
  | [d1, d2] => { results := [.lit (.bool false)], args := [d1, d2] }
  | _ => none }
def FnExactDropKeyWrongFalsely : Prop := fnExactDropKeyRow.holds Try.pinned (OpenSpec.ofChange fnExactDropKeyWrong)

/-- 'laws.FnExactGetKey': WHATEVER THE INPUT: true; the input reads as it did. -/
def fnExactGetKeySpec : ChangeSpec := { name := "fnExactGetKey", fn := fun _ => fun
  | [d1, d2] => { results := [.lit (.bool true)], args := [d1, d2] }
  | _ => none }
def fnExactGetKeyRow : OpenClaim := { program := "ytlkaddjfmphmaaa", sum := "5126bd07142a7f915773e561c12d9e4ef91f7afee23af1f36881bcabaad0755a", func := "loop.example/g00166/laws.FnExactGetKey", spec := "fnExactGetKey", unfollowed := true, recurses := true, apart := false }
def FnExactGetKeySaid : Prop := fnExactGetKeyRow.holds Try.pinned (OpenSpec.ofChange fnExactGetKeySpec)

/-- ITS FALSE NEIGHBOUR: 'it returns false'. Refute it at one input. -/
def fnExactGetKeyWrong : ChangeSpec := { name := "fnExactGetKey", fn := fun _ => fun
  | [d1, d2] => { results := [.lit (.bool false)], args := [d1, d2] }
  | _ => none }
def FnExactGetKeyWrongFalsely : Prop := fnExactGetKeyRow.holds Try.pinned (OpenSpec.ofChange fnExactGetKeyWrong)

/- THE SECOND FORM. 'bulk': how many values and letters a reading holds, each counted each time it is reached (what is shared counts as often as it is met; a slice's spare places count too). A statement '..UptoSaid' is the law's where the arguments, and the package variables that the reading takes, are together of bulk at most 1048576: NARROWER than '..Said'. Prove '..Said' where nothing that the law and all that it calls make is longer than what came in: it says more and counts as full. Else prove '..UptoSaid'. A law counts once. -/
mutual
def uptoBulk {H : Type} : DataW H → Nat
  | .lit (.string bytes) => bytes.length + 1
  | .lit _ => 1
  | .nil => 1
  | .ptr d => uptoBulk d + 1
  | .slice elems spare => uptoBulkAll elems + uptoBulkAll spare + 1
  | .agg parts => uptoBulkAll parts + 1
  | .iface _ d => uptoBulk d + 1
  | .map entries => uptoBulkEntries entries + 1
  | .held _ => 1
def uptoBulkAll {H : Type} : List (DataW H) → Nat
  | [] => 0
  | d :: r => uptoBulk d + uptoBulkAll r
def uptoBulkEntries {H : Type} : List (Lit × DataW H) → Nat
  | [] => 0
  | x :: r => uptoBulkEntry x + uptoBulkEntries r
def uptoBulkEntry {H : Type} : Lit × DataW H → Nat
  | (.string bytes, d) => bytes.length + uptoBulk d + 1
  | (_, d) => uptoBulk d + 1
 end
def uptoSmall : (H : Type) → List (DataW H) → Bool := fun _ ds => decide (uptoBulkAll ds ≤ 1048576)
def OpenSpec.upto (s : _root_.Go.ChangeSpec) : _root_.Go.OpenSpec := { _root_.Go.OpenSpec.ofChange s with cond := some uptoSmall }

/-- 'laws.FnExactValueFault', WHERE WHAT IT READS IS OF BULK AT MOST 1048576: true; the input reads as it did. -/
def fnExactValueFaultUptoRow : OpenClaim := { program := "ytlkaddjfmphmaaa", sum := "5126bd07142a7f915773e561c12d9e4ef91f7afee23af1f36881bcabaad0755a", func := "loop.example/g00166/laws.FnExactValueFault", spec := "fnExactValueFault", recurses := true, apart := false, narrowed := true }
def FnExactValueFaultUptoSaid : Prop := fnExactValueFaultUptoRow.holds Try.pinned (OpenSpec.upto fnExactValueFaultSpec)

/-- 'laws.FnExactTruthy', WHERE WHAT IT READS IS OF BULK AT MOST 1048576: true; the input reads as it did. -/
def fnExactTruthyUptoRow : OpenClaim := { program := "ytlkaddjfmphmaaa", sum := "5126bd07142a7f915773e561c12d9e4ef91f7afee23af1f36881bcabaad0755a", func := "loop.example/g00166/laws.FnExactTruthy", spec := "fnExactTruthy", recurses := true, apart := false, narrowed := true }
def FnExactTruthyUptoSaid : Prop := fnExactTruthyUptoRow.holds Try.pinned (OpenSpec.upto fnExactTruthySpec)

/-- 'laws.FnExactNumberValue', WHERE WHAT IT READS IS OF BULK AT MOST 1048576: true; the input reads as it did. -/
def fnExactNumberValueUptoRow : OpenClaim := { program := "ytlkaddjfmphmaaa", sum := "5126bd07142a7f915773e561c12d9e4ef91f7afee23af1f36881bcabaad0755a", func := "loop.example/g00166/laws.FnExactNumberValue", spec := "fnExactNumberValue", recurses := true, apart := false, narrowed := true }
def FnExactNumberValueUptoSaid : Prop := fnExactNumberValueUptoRow.holds Try.pinned (OpenSpec.upto fnExactNumberValueSpec)

/-- 'laws.FnExactStringValue', WHERE WHAT IT READS IS OF BULK AT MOST 1048576: true; the input reads as it did. -/
def fnExactStringValueUptoRow : OpenClaim := { program := "ytlkaddjfmphmaaa", sum := "5126bd07142a7f915773e561c12d9e4ef91f7afee23af1f36881bcabaad0755a", func := "loop.example/g00166/laws.FnExactStringValue", spec := "fnExactStringValue", recurses := true, apart := false, narrowed := true }
def FnExactStringValueUptoSaid : Prop := fnExactStringValueUptoRow.holds Try.pinned (OpenSpec.upto fnExactStringValueSpec)

/-- 'laws.FnExactDepthOf', WHERE WHAT IT READS IS OF BULK AT MOST 1048576: true; the input reads as it did. -/
def fnExactDepthOfUptoRow : OpenClaim := { program := "ytlkaddjfmphmaaa", sum := "5126bd07142a7f915773e561c12d9e4ef91f7afee23af1f36881bcabaad0755a", func := "loop.example/g00166/laws.FnExactDepthOf", spec := "fnExactDepthOf", recurses := true, apart := false, narrowed := true }
def FnExactDepthOfUptoSaid : Prop := fnExactDepthOfUptoRow.holds Try.pinned (OpenSpec.upto fnExactDepthOfSpec)

/-- 'laws.FnExactRangeOf', WHERE WHAT IT READS IS OF BULK AT MOST 1048576: true; the input reads as it did. -/
def fnExactRangeOfUptoRow : OpenClaim := { program := "ytlkaddjfmphmaaa", sum := "5126bd07142a7f915773e561c12d9e4ef91f7afee23af1f36881bcabaad0755a", func := "loop.example/g00166/laws.FnExactRangeOf", spec := "fnExactRangeOf", recurses := true, apart := false, narrowed := true }
def FnExactRangeOfUptoSaid : Prop := fnExactRangeOfUptoRow.holds Try.pinned (OpenSpec.upto fnExactRangeOfSpec)

/-- 'laws.FnExactEndAt', WHERE WHAT IT READS IS OF BULK AT MOST 1048576: true; the input reads as it did. -/
def fnExactEndAtUptoRow : OpenClaim := { program := "ytlkaddjfmphmaaa", sum := "5126bd07142a7f915773e561c12d9e4ef91f7afee23af1f36881bcabaad0755a", func := "loop.example/g00166/laws.FnExactEndAt", spec := "fnExactEndAt", recurses := true, apart := false, narrowed := true }
def FnExactEndAtUptoSaid : Prop := fnExactEndAtUptoRow.holds Try.pinned (OpenSpec.upto fnExactEndAtSpec)

/-- 'laws.FnExactChildrenAt', WHERE WHAT IT READS IS OF BULK AT MOST 1048576: true; the input reads as it did. -/
def fnExactChildrenAtUptoRow : OpenClaim := { program := "ytlkaddjfmphmaaa", sum := "5126bd07142a7f915773e561c12d9e4ef91f7afee23af1f36881bcabaad0755a", func := "loop.example/g00166/laws.FnExactChildrenAt", spec := "fnExactChildrenAt", recurses := true, apart := false, narrowed := true }
def FnExactChildrenAtUptoSaid : Prop := fnExactChildrenAtUptoRow.holds Try.pinned (OpenSpec.upto fnExactChildrenAtSpec)

/-- 'laws.FnExactPartAt', WHERE WHAT IT READS IS OF BULK AT MOST 1048576: true; the input reads as it did. -/
def fnExactPartAtUptoRow : OpenClaim := { program := "ytlkaddjfmphmaaa", sum := "5126bd07142a7f915773e561c12d9e4ef91f7afee23af1f36881bcabaad0755a", func := "loop.example/g00166/laws.FnExactPartAt", spec := "fnExactPartAt", recurses := true, apart := false, narrowed := true }
def FnExactPartAtUptoSaid : Prop := fnExactPartAtUptoRow.holds Try.pinned (OpenSpec.upto fnExactPartAtSpec)

/-- 'laws.FnExactTypeOf', WHERE WHAT IT READS IS OF BULK AT MOST 1048576: true; the input reads as it did. -/
def fnExactTypeOfUptoRow : OpenClaim := { program := "ytlkaddjfmphmaaa", sum := "5126bd07142a7f915773e561c12d9e4ef91f7afee23af1f36881bcabaad0755a", func := "loop.example/g00166/laws.FnExactTypeOf", spec := "fnExactTypeOf", unfollowed := true, recurses := true, apart := false, narrowed := true }
def FnExactTypeOfUptoSaid : Prop := fnExactTypeOfUptoRow.holds Try.pinned (OpenSpec.upto fnExactTypeOfSpec)

/-- 'laws.FnOrders', WHERE WHAT IT READS IS OF BULK AT MOST 1048576: true; the input reads as it did. -/
def fnOrdersUptoRow : OpenClaim := { program := "ytlkaddjfmphmaaa", sum := "5126bd07142a7f915773e561c12d9e4ef91f7afee23af1f36881bcabaad0755a", func := "loop.example/g00166/laws.FnOrders", spec := "fnOrders", inPlace := ["internal/bytealg.abigen_runtime_cmpstring"], recurses := true, apart := false, narrowed := true }
def FnOrdersUptoSaid : Prop := fnOrdersUptoRow.holds Try.pinned (OpenSpec.upto fnOrdersSpec)

/-- 'laws.FnExactCompareValues', WHERE WHAT IT READS IS OF BULK AT MOST 1048576: true; the input reads as it did. -/
def fnExactCompareValuesUptoRow : OpenClaim := { program := "ytlkaddjfmphmaaa", sum := "5126bd07142a7f915773e561c12d9e4ef91f7afee23af1f36881bcabaad0755a", func := "loop.example/g00166/laws.FnExactCompareValues", spec := "fnExactCompareValues", inPlace := ["internal/bytealg.abigen_runtime_cmpstring"], recurses := true, apart := false, narrowed := true }
def FnExactCompareValuesUptoSaid : Prop := fnExactCompareValuesUptoRow.holds Try.pinned (OpenSpec.upto fnExactCompareValuesSpec)

/-- 'laws.FnExactSameValues', WHERE WHAT IT READS IS OF BULK AT MOST 1048576: true; the input reads as it did. -/
def fnExactSameValuesUptoRow : OpenClaim := { program := "ytlkaddjfmphmaaa", sum := "5126bd07142a7f915773e561c12d9e4ef91f7afee23af1f36881bcabaad0755a", func := "loop.example/g00166/laws.FnExactSameValues", spec := "fnExactSameValues", inPlace := ["internal/bytealg.abigen_runtime_cmpstring"], recurses := true, apart := false, narrowed := true }
def FnExactSameValuesUptoSaid : Prop := fnExactSameValuesUptoRow.holds Try.pinned (OpenSpec.upto fnExactSameValuesSpec)

/-- 'laws.FnExactLengthOf', WHERE WHAT IT READS IS OF BULK AT MOST 1048576: true; the input reads as it did. -/
def fnExactLengthOfUptoRow : OpenClaim := { program := "ytlkaddjfmphmaaa", sum := "5126bd07142a7f915773e561c12d9e4ef91f7afee23af1f36881bcabaad0755a", func := "loop.example/g00166/laws.FnExactLengthOf", spec := "fnExactLengthOf", unfollowed := true, recurses := true, apart := false, narrowed := true }
def FnExactLengthOfUptoSaid : Prop := fnExactLengthOfUptoRow.holds Try.pinned (OpenSpec.upto fnExactLengthOfSpec)

/-- 'laws.FnExactEachOf', WHERE WHAT IT READS IS OF BULK AT MOST 1048576: true; the input reads as it did. -/
def fnExactEachOfUptoRow : OpenClaim := { program := "ytlkaddjfmphmaaa", sum := "5126bd07142a7f915773e561c12d9e4ef91f7afee23af1f36881bcabaad0755a", func := "loop.example/g00166/laws.FnExactEachOf", spec := "fnExactEachOf", recurses := true, apart := false, narrowed := true }
def FnExactEachOfUptoSaid : Prop := fnExactEachOfUptoRow.holds Try.pinned (OpenSpec.upto fnExactEachOfSpec)

/-- 'laws.FnExactGetIndex', WHERE WHAT IT READS IS OF BULK AT MOST 1048576: true; the input reads as it did. -/
def fnExactGetIndexUptoRow : OpenClaim := { program := "ytlkaddjfmphmaaa", sum := "5126bd07142a7f915773e561c12d9e4ef91f7afee23af1f36881bcabaad0755a", func := "loop.example/g00166/laws.FnExactGetIndex", spec := "fnExactGetIndex", unfollowed := true, recurses := true, apart := false, narrowed := true }
def FnExactGetIndexUptoSaid : Prop := fnExactGetIndexUptoRow.holds Try.pinned (OpenSpec.upto fnExactGetIndexSpec)

/-- 'laws.FnExactArrayValue', WHERE WHAT IT READS IS OF BULK AT MOST 1048576: true; the input reads as it did. -/
def fnExactArrayValueUptoRow : OpenClaim := { program := "ytlkaddjfmphmaaa", sum := "5126bd07142a7f915773e561c12d9e4ef91f7afee23af1f36881bcabaad0755a", func := "loop.example/g00166/laws.FnExactArrayValue", spec := "fnExactArrayValue", recurses := true, apart := false, narrowed := true }
def FnExactArrayValueUptoSaid : Prop := fnExactArrayValueUptoRow.holds Try.pinned (OpenSpec.upto fnExactArrayValueSpec)

/-- 'laws.FnExactKeysOf', WHERE WHAT IT READS IS OF BULK AT MOST 1048576: true; the input reads as it did. -/
def fnExactKeysOfUptoRow : OpenClaim := { program := "ytlkaddjfmphmaaa", sum := "5126bd07142a7f915773e561c12d9e4ef91f7afee23af1f36881bcabaad0755a", func := "loop.example/g00166/laws.FnExactKeysOf", spec := "fnExactKeysOf", unfollowed := true, recurses := true, apart := false, narrowed := true }
def FnExactKeysOfUptoSaid : Prop := fnExactKeysOfUptoRow.holds Try.pinned (OpenSpec.upto fnExactKeysOfSpec)

/-- 'laws.FnExactDropKey', WHERE WHAT IT READS IS OF BULK AT MOST 1048576: true; the input reads as it did. -/
def fnExactDropKeyUptoRow : OpenClaim := { program := "ytlkaddjfmphmaaa", sum := "5126bd07142a7f915773e561c12d9e4ef91f7afee23af1f36881bcabaad0755a", func := "loop.example/g00166/laws.FnExactDropKey", spec := "fnExactDropKey", unfollowed := true, recurses := true, apart := false, narrowed := true }
def FnExactDropKeyUptoSaid : Prop := fnExactDropKeyUptoRow.holds Try.pinned (OpenSpec.upto fnExactDropKeySpec)

/-- 'laws.FnExactGetKey', WHERE WHAT IT READS IS OF BULK AT MOST 1048576: true; the input reads as it did. -/
def fnExactGetKeyUptoRow : OpenClaim := { program := "ytlkaddjfmphmaaa", sum := "5126bd07142a7f915773e561c12d9e4ef91f7afee23af1f36881bcabaad0755a", func := "loop.example/g00166/laws.FnExactGetKey", spec := "fnExactGetKey", unfollowed := true, recurses := true, apart := false, narrowed := true }
def FnExactGetKeyUptoSaid : Prop := fnExactGetKeyUptoRow.holds Try.pinned (OpenSpec.upto fnExactGetKeySpec)

end Rows
end Go.Proofs.Ytlkaddjfmphmaaa
