/-
  No cell of these rows narrows 'for every input' (looked for: loops, veiled, ifaces, maps, wideKeys, modest, calm, conditions, laid).
  DERIVED. THE GIVEN ROWS OF THIS SEAT. 14 by the template 'for every input the law returns true; each argument reads behind the call as it read before'; 0 by the template 'total and deterministic' (their statements: YtlegadpbjccelaaTotals.lean).
  GIVEN WITH THE SEED: the statements are not yours to turn. If you find one false, say at which input.
  Laid BY PROGRAM, IN A SANDBOX (cutbox-rows.mjs): the forced cells as the released guide's own fill.sh prints them over the translation 5b07a79ab0073128… (all of the seat's roots in one cut). By AI agents, Wed Nov 11 2026. No macro, syntax, notation, axiom, sorry.
-/
import Derived.Test.YtlegadpbjccelaaChecked
import GoSem.Claim
import GoSem.ClaimJoined
import GoSem.ClaimMapViews
import Derived.JoinedTies
import Derived.KernelRfl
namespace Go.Proofs.Ytlegadpbjccelaa
/- THE CELL 'sum', in the pinned program and in every row, IS THE sha256 OF THE DUMP (.gsa) THAT YtlegadpbjccelaaProg.lean LOADS. Nothing in Lean hashes anything: it is a label: what it is worth is what the hold of that sum in a sandbox is worth. -/
noncomputable def Try.pinned : Pinned := { name := "ytlegadpbjccelaa", sum := "5b07a79ab0073128cb89bf7a62b4e89c2ccdf2be8e09212d1ad26359c57f19cc", checked := Try.checked }
namespace Rows
def none {H : Type} : Left H := { results := [], args := [] }

/-- 'laws.FnOrders': WHATEVER THE INPUT: true; the input reads as it did. -/
def fnOrdersSpec : ChangeSpec := { name := "fnOrders", fn := fun _ => fun
  | [d] => { results := [.lit (.bool true)], args := [d] }
  | _ => none }
def fnOrdersRow : OpenClaim := { program := "ytlegadpbjccelaa", sum := "5b07a79ab0073128cb89bf7a62b4e89c2ccdf2be8e09212d1ad26359c57f19cc", func := "loop.example/g00166/laws.FnOrders", spec := "fnOrders", inPlace := ["internal/bytealg.abigen_runtime_cmpstring"], recurses := true, apart := false }
def FnOrdersSaid : Prop := fnOrdersRow.holds Try.pinned (OpenSpec.ofChange fnOrdersSpec)

/-- ITS FALSE NEIGHBOUR: 'it returns false'. Refute it at one input. -/
def fnOrdersWrong : ChangeSpec := { name := "fnOrders", fn := fun _ => fun
  | [d] => { results := [.lit (.bool false)], args := [d] }
  | _ => none }
def FnOrdersWrongFalsely : Prop := fnOrdersRow.holds Try.pinned (OpenSpec.ofChange fnOrdersWrong)

/-- 'laws.FnExactEachOf': WHATEVER THE INPUT: true; the input reads as it did. -/
def fnExactEachOfSpec : ChangeSpec := { name := "fnExactEachOf", fn := fun _ => fun
  | [d] => { results := [.lit (.bool true)], args := [d] }
  | _ => none }
def fnExactEachOfRow : OpenClaim := { program := "ytlegadpbjccelaa", sum := "5b07a79ab0073128cb89bf7a62b4e89c2ccdf2be8e09212d1ad26359c57f19cc", func := "loop.example/g00166/laws.FnExactEachOf", spec := "fnExactEachOf", recurses := true, apart := false }
def FnExactEachOfSaid : Prop := fnExactEachOfRow.holds Try.pinned (OpenSpec.ofChange fnExactEachOfSpec)

/-- ITS FALSE NEIGHBOUR: 'it returns false'. Refute it at one input. -/
def fnExactEachOfWrong : ChangeSpec := { name := "fnExactEachOf", fn := fun _ => fun
  | [d] => { results := [.lit (.bool false)], args := [d] }
  | _ => none }
def FnExactEachOfWrongFalsely : Prop := fnExactEachOfRow.holds Try.pinned (OpenSpec.ofChange fnExactEachOfWrong)

/-- 'laws.FnExactArrayValue': WHATEVER THE INPUT: true; the input reads as it did. -/
def fnExactArrayValueSpec : ChangeSpec := { name := "fnExactArrayValue", fn := fun _ => fun
  | [d] => { results := [.lit (.bool true)], args := [d] }
  | _ => none }
def fnExactArrayValueRow : OpenClaim := { program := "ytlegadpbjccelaa", sum := "5b07a79ab0073128cb89bf7a62b4e89c2ccdf2be8e09212d1ad26359c57f19cc", func := "loop.example/g00166/laws.FnExactArrayValue", spec := "fnExactArrayValue", recurses := true, apart := false }
def FnExactArrayValueSaid : Prop := fnExactArrayValueRow.holds Try.pinned (OpenSpec.ofChange fnExactArrayValueSpec)

/-- ITS FALSE NEIGHBOUR: 'it returns false'. Refute it at one input. -/
def fnExactArrayValueWrong : ChangeSpec := { name := "fnExactArrayValue", fn := fun _ => fun
  | [d] => { results := [.lit (.bool false)], args := [d] }
  | _ => none }
def FnExactArrayValueWrongFalsely : Prop := fnExactArrayValueRow.holds Try.pinned (OpenSpec.ofChange fnExactArrayValueWrong)

/-- 'laws.FnExactKindsCore': WHATEVER THE INPUT: true; the input reads as it did. -/
def fnExactKindsCoreSpec : ChangeSpec := { name := "fnExactKindsCore", fn := fun _ => fun
  | [d] => { results := [.lit (.bool true)], args := [d] }
  | _ => none }
def fnExactKindsCoreRow : OpenClaim := { program := "ytlegadpbjccelaa", sum := "5b07a79ab0073128cb89bf7a62b4e89c2ccdf2be8e09212d1ad26359c57f19cc", func := "loop.example/g00166/laws.FnExactKindsCore", spec := "fnExactKindsCore", unfollowed := true, recurses := true, apart := false }
def FnExactKindsCoreSaid : Prop := fnExactKindsCoreRow.holds Try.pinned (OpenSpec.ofChange fnExactKindsCoreSpec)

/-- ITS FALSE NEIGHBOUR: 'it returns false'. Refute it at one input. -/
def fnExactKindsCoreWrong : ChangeSpec := { name := "fnExactKindsCore", fn := fun _ => fun
  | [d] => { results := [.lit (.bool false)], args := [d] }
  | _ => none }
def FnExactKindsCoreWrongFalsely : Prop := fnExactKindsCoreRow.holds Try.pinned (OpenSpec.ofChange fnExactKindsCoreWrong)

/-- 'laws.FnExactSetKey': WHATEVER THE INPUT: true; the input reads as it did. -/
def fnExactSetKeySpec : ChangeSpec := { name := "fnExactSetKey", fn := fun _ => fun
  | [d1, d2, d3] => { results := [.lit (.bool true)], args := [d1, d2, d3] }
  | _ => none }
def fnExactSetKeyRow : OpenClaim := { program := "ytlegadpbjccelaa", sum := "5b07a79ab0073128cb89bf7a62b4e89c2ccdf2be8e09212d1ad26359c57f19cc", func := "loop.example/g00166/laws.FnExactSetKey", spec := "fnExactSetKey", unfollowed := true, recurses := true, apart := false }
def FnExactSetKeySaid : Prop := fnExactSetKeyRow.holds Try.pinned (OpenSpec.ofChange fnExactSetKeySpec)

/-- ITS FALSE NEIGHBOUR: 'it returns false'. Refute it at one input. -/
def fnExactSetKeyWrong : ChangeSpec := { name := "fnExactSetKey", fn := fun _ => fun
  | [d1, d2, d3] => { results := [.lit (.bool false)], args := [d1, d2, d3] }
  | _ => none }
def FnExactSetKeyWrongFalsely : Prop := fnExactSetKeyRow.holds Try.pinned (OpenSpec.ofChange fnExactSetKeyWrong)

/-- 'laws.FnExactObjectValue': WHATEVER THE INPUT: true; the input reads as it did. -/
def fnExactObjectValueSpec : ChangeSpec := { name := "fnExactObjectValue", fn := fun _ => fun
  | [d1, d2] => { results := [.lit (.bool true)], args := [d1, d2] }
  | _ => none }
def fnExactObjectValueRow : OpenClaim := { program := "ytlegadpbjccelaa", sum := "5b07a79ab0073128cb89bf7a62b4e89c2ccdf2be8e09212d1ad26359c57f19cc", func := "loop.example/g00166/laws.FnExactObjectValue", spec := "fnExactObjectValue", unfollowed := true, recurses := true, apart := false }
def FnExactObjectValueSaid : Prop := fnExactObjectValueRow.holds Try.pinned (OpenSpec.ofChange fnExactObjectValueSpec)

/-- ITS FALSE NEIGHBOUR: 'it returns false'. Refute it at one input. -/
def fnExactObjectValueWrong : ChangeSpec := { name := "fnExactObjectValue", fn := fun _ => fun
  | [d1, d2] => { results := [.lit (.bool false)], args := [d1, d2] }
  | _ => none }
def FnExactObjectValueWrongFalsely : Prop := fnExactObjectValueRow.holds Try.pinned (OpenSpec.ofChange fnExactObjectValueWrong)

/-- 'laws.FnExactVarsOf': WHATEVER THE INPUT: true; the input reads as it did. -/
def fnExactVarsOfSpec : ChangeSpec := { name := "fnExactVarsOf", fn := fun _ => fun
  | [d] => { results := [.lit (.bool true)], args := [d] }
  | _ => none }
def fnExactVarsOfRow : OpenClaim := { program := "ytlegadpbjccelaa", sum := "5b07a79ab0073128cb89bf7a62b4e89c2ccdf2be8e09212d1ad26359c57f19cc", func := "loop.example/g00166/laws.FnExactVarsOf", spec := "fnExactVarsOf", unfollowed := true, recurses := true, apart := false }
def FnExactVarsOfSaid : Prop := fnExactVarsOfRow.holds Try.pinned (OpenSpec.ofChange fnExactVarsOfSpec)

/-- ITS FALSE NEIGHBOUR: 'it returns false'. Refute it at one input. -/
def fnExactVarsOfWrong : ChangeSpec := { name := "fnExactVarsOf", fn := fun _ => fun
  | [d] => { results := [.lit (.bool false)], args := [d] }
  | _ => none }
def FnExactVarsOfWrongFalsely : Prop := fnExactVarsOfRow.holds Try.pinned (OpenSpec.ofChange fnExactVarsOfWrong)

/-- 'laws.FnExactReadsCore': WHATEVER THE INPUT: true; the input reads as it did. -/
def fnExactReadsCoreSpec : ChangeSpec := { name := "fnExactReadsCore", fn := fun _ => fun
  | [d] => { results := [.lit (.bool true)], args := [d] }
  | _ => none }
def fnExactReadsCoreRow : OpenClaim := { program := "ytlegadpbjccelaa", sum := "5b07a79ab0073128cb89bf7a62b4e89c2ccdf2be8e09212d1ad26359c57f19cc", func := "loop.example/g00166/laws.FnExactReadsCore", spec := "fnExactReadsCore", unfollowed := true, recurses := true, apart := false }
def FnExactReadsCoreSaid : Prop := fnExactReadsCoreRow.holds Try.pinned (OpenSpec.ofChange fnExactReadsCoreSpec)

/-- ITS FALSE NEIGHBOUR: 'it returns false'. Refute it at one input. -/
def fnExactReadsCoreWrong : ChangeSpec := { name := "fnExactReadsCore", fn := fun _ => fun
  | [d] => { results := [.lit (.bool false)], args := [d] }
  | _ => none }
def FnExactReadsCoreWrongFalsely : Prop := fnExactReadsCoreRow.holds Try.pinned (OpenSpec.ofChange fnExactReadsCoreWrong)

/-- 'laws.FnExactAddAll': WHATEVER THE INPUT: true; the input reads as it did. -/
def fnExactAddAllSpec : ChangeSpec := { name := "fnExactAddAll", fn := fun _ => fun
  | [d] => { results := [.lit (.bool true)], args := [d] }
  | _ => none }
def fnExactAddAllRow : OpenClaim := { program := "ytlegadpbjccelaa", sum := "5b07a79ab0073128cb89bf7a62b4e89c2ccdf2be8e09212d1ad26359c57f19cc", func := "loop.example/g00166/laws.FnExactAddAll", spec := "fnExactAddAll", unfollowed := true, recurses := true, apart := false }
def FnExactAddAllSaid : Prop := fnExactAddAllRow.holds Try.pinned (OpenSpec.ofChange fnExactAddAllSpec)

/-- ITS FALSE NEIGHBOUR: 'it returns false'. Refute it at one input. -/
def fnExactAddAllWrong : ChangeSpec := { name := "fnExactAddAll", fn := fun _ => fun
  | [d] => { results := [.lit (.bool false)], args := [d] }
  | _ => none }
def FnExactAddAllWrongFalsely : Prop := fnExactAddAllRow.holds Try.pinned (OpenSpec.ofChange fnExactAddAllWrong)

/-- 'laws.FnParts': WHATEVER THE INPUT: true; the input reads as it did. -/
def fnPartsSpec : ChangeSpec := { name := "fnParts", fn := fun _ => fun
  | [d] => { results := [.lit (.bool true)], args := [d] }
  | _ => none }
def fnPartsRow : OpenClaim := { program := "ytlegadpbjccelaa", sum := "5b07a79ab0073128cb89bf7a62b4e89c2ccdf2be8e09212d1ad26359c57f19cc", func := "loop.example/g00166/laws.FnParts", spec := "fnParts", inPlace := ["internal/bytealg.abigen_runtime_cmpstring"], unfollowed := true, recurses := true, apart := false }
def FnPartsSaid : Prop := fnPartsRow.holds Try.pinned (OpenSpec.ofChange fnPartsSpec)

/-- ITS FALSE NEIGHBOUR: 'it returns false'. Refute it at one input. -/
def fnPartsWrong : ChangeSpec := { name := "fnParts", fn := fun _ => fun
  | [d] => { results := [.lit (.bool false)], args := [d] }
  | _ => none }
def FnPartsWrongFalsely : Prop := fnPartsRow.holds Try.pinned (OpenSpec.ofChange fnPartsWrong)

/-- 'laws.FnMembers': WHATEVER THE INPUT: true; the input reads as it did. -/
def fnMembersSpec : ChangeSpec := { name := "fnMembers", fn := fun _ => fun
  | [d] => { results := [.lit (.bool true)], args := [d] }
  | _ => none }
def fnMembersRow : OpenClaim := { program := "ytlegadpbjccelaa", sum := "5b07a79ab0073128cb89bf7a62b4e89c2ccdf2be8e09212d1ad26359c57f19cc", func := "loop.example/g00166/laws.FnMembers", spec := "fnMembers", inPlace := ["internal/bytealg.abigen_runtime_cmpstring"], unfollowed := true, recurses := true, apart := false }
def FnMembersSaid : Prop := fnMembersRow.holds Try.pinned (OpenSpec.ofChange fnMembersSpec)

/-- ITS FALSE NEIGHBOUR: 'it returns false'. Refute it at one input. -/
def fnMembersWrong : ChangeSpec := { name := "fnMembers", fn := fun _ => fun
  | [d] => { results := [.lit (.bool false)], args := [d] }
  | _ => none }
def FnMembersWrongFalsely : Prop := fnMembersRow.holds Try.pinned (OpenSpec.ofChange fnMembersWrong)

/-- 'laws.FnExactCompileCore': WHATEVER THE INPUT: true; the input reads as it did. -/
def fnExactCompileCoreSpec : ChangeSpec := { name := "fnExactCompileCore", fn := fun _ => fun
  | [d] => { results := [.lit (.bool true)], args := [d] }
  | _ => none }
def fnExactCompileCoreRow : OpenClaim := { program := "ytlegadpbjccelaa", sum := "5b07a79ab0073128cb89bf7a62b4e89c2ccdf2be8e09212d1ad26359c57f19cc", func := "loop.example/g00166/laws.FnExactCompileCore", spec := "fnExactCompileCore", unfollowed := true, recurses := true, apart := false }
def FnExactCompileCoreSaid : Prop := fnExactCompileCoreRow.holds Try.pinned (OpenSpec.ofChange fnExactCompileCoreSpec)

/-- ITS FALSE NEIGHBOUR: 'it returns false'. Refute it at one input. -/
def fnExactCompileCoreWrong : ChangeSpec := { name := "fnExactCompileCore", fn := fun _ => fun
  | [d] => { results := [.lit (.bool false)], args := [d] }
  | _ => none }
def FnExactCompileCoreWrongFalsely : Prop := fnExactCompileCoreRow.holds Try.pinned (OpenSpec.ofChange fnExactCompileCoreWrong)

/-- 'laws.FnExactSortOf': WHATEVER THE INPUT: true; the input reads as it did. -/
def fnExactSortOfSpec : ChangeSpec := { name := "fnExactSortOf", fn := fun _ => fun
  | [d] => { results := [.lit (.bool true)], args := [d] }
  | _ => none }
def fnExactSortOfRow : OpenClaim := { program := "ytlegadpbjccelaa", sum := "5b07a79ab0073128cb89bf7a62b4e89c2ccdf2be8e09212d1ad26359c57f19cc", func := "loop.example/g00166/laws.FnExactSortOf", spec := "fnExactSortOf", inPlace := ["internal/bytealg.abigen_runtime_cmpstring"], unfollowed := true, recurses := true, apart := false }
def FnExactSortOfSaid : Prop := fnExactSortOfRow.holds Try.pinned (OpenSpec.ofChange fnExactSortOfSpec)

/-- ITS FALSE NEIGHBOUR: 'it returns false'. Refute it at one input. -/
def fnExactSortOfWrong : ChangeSpec := { name := "fnExactSortOf", fn := fun _ => fun
  | [d] => { results := [.lit (.bool false)], args := [d] }
  | _ => none }
def FnExactSortOfWrongFalsely : Prop := fnExactSortOfRow.holds Try.pinned (OpenSpec.ofChange fnExactSortOfWrong)

/-- 'laws.FnSorts': WHATEVER THE INPUT: true; the input reads as it did. -/
def fnSortsSpec : ChangeSpec := { name := "fnSorts", fn := fun _ => fun
  | [d] => { results := [.lit (.bool true)], args := [d] }
  | _ => none }
def fnSortsRow : OpenClaim := { program := "ytlegadpbjccelaa", sum := "5b07a79ab0073128cb89bf7a62b4e89c2ccdf2be8e09212d1ad26359c57f19cc", func := "loop.example/g00166/laws.FnSorts", spec := "fnSorts", inPlace := ["internal/bytealg.abigen_runtime_cmpstring"], unfollowed := true, recurses := true, apart := false }
def FnSortsSaid : Prop := fnSortsRow.holds Try.pinned (OpenSpec.ofChange fnSortsSpec)

/-- ITS FALSE NEIGHBOUR: 'it returns false'. Refute it at one input. -/
def fnSortsWrong : ChangeSpec := { name := "fnSorts", fn := fun _ => fun
  | [d] => { results := [.lit (.bool false)], args := [d] }
  | _ => none }
def FnSortsWrongFalsely : Prop := fnSortsRow.holds Try.pinned (OpenSpec.ofChange fnSortsWrong)

/- THE SECOND FORM. 'bulk': how many values and letters a reading holds, each counted each time it is reached (what is shared counts as often as it is met; a slice's spare places count too). A statement '..UptoSaid' is the law's where the arguments, and the package variables that the reading takes, are together of bulk at most 1048576: NARROWER than '..Said'. Prove '..Said' where nothing that the law and all that it calls make is longer than what came in: it says more and counts as full. Else prove '..UptoSaid'. A law counts once. -/
mutual
def uptoBulk {H : Type} : DataW H → Nat
  | .lit (.string bytes) => bytes.length + 1
  | .lit _ => 1
  | .nil => 1
  | .ptr d => uptoBulk d + 1
  | .slice elems spare => uptoBulkAll elems + uptoBulkAll spare + 1
  | .agg parts => uptoBulkAll parts + 1
  | .iface _ d => uptoBulk d + 1
  | .map entries => uptoBulkEntries entries + 1
  | .held _ => 1
def uptoBulkAll {H : Type} : List (DataW H) → Nat
  | [] => 0
  | d :: r => uptoBulk d + uptoBulkAll r
def uptoBulkEntries {H : Type} : List (Lit × DataW H) → Nat
  | [] => 0
  | x :: r => uptoBulkEntry x + uptoBulkEntries r
def uptoBulkEntry {H : Type} : Lit × DataW H → Nat
  | (.string bytes, d) => bytes.length + uptoBulk d + 1
  | (_, d) => uptoBulk d + 1
 end
def uptoSmall : (H : Type) → List (DataW H) → Bool := fun _ ds => decide (uptoBulkAll ds ≤ 1048576)
def OpenSpec.upto (s : _root_.Go.ChangeSpec) : _root_.Go.OpenSpec := { _root_.Go.OpenSpec.ofChange s with cond := some uptoSmall }

/-- 'laws.FnOrders', WHERE WHAT IT READS IS OF BULK AT MOST 1048576: true; the input reads as it did. -/
def fnOrdersUptoRow : OpenClaim := { program := "ytlegadpbjccelaa", sum := "5b07a79ab0073128cb89bf7a62b4e89c2ccdf2be8e09212d1ad26359c57f19cc", func := "loop.example/g00166/laws.FnOrders", spec := "fnOrders", inPlace := ["internal/bytealg.abigen_runtime_cmpstring"], recurses := true, apart := false, narrowed := true }
def FnOrdersUptoSaid : Prop := fnOrdersUptoRow.holds Try.pinned (OpenSpec.upto fnOrdersSpec)

/-- 'laws.FnExactEachOf', WHERE WHAT IT READS IS OF BULK AT MOST 1048576: true; the input reads as it did. -/
def fnExactEachOfUptoRow : OpenClaim := { program := "ytlegadpbjccelaa", sum := "5b07a79ab0073128cb89bf7a62b4e89c2ccdf2be8e09212d1ad26359c57f19cc", func := "loop.example/g00166/laws.FnExactEachOf", spec := "fnExactEachOf", recurses := true, apart := false, narrowed := true }
def FnExactEachOfUptoSaid : Prop := fnExactEachOfUptoRow.holds Try.pinned (OpenSpec.upto fnExactEachOfSpec)

/-- 'laws.FnExactArrayValue', WHERE WHAT IT READS IS OF BULK AT MOST 1048576: true; the input reads as it did. -/
def fnExactArrayValueUptoRow : OpenClaim := { program := "ytlegadpbjccelaa", sum := "5b07a79ab0073128cb89bf7a62b4e89c2ccdf2be8e09212d1ad26359c57f19cc", func := "loop.example/g00166/laws.FnExactArrayValue", spec := "fnExactArrayValue", recurses := true, apart := false, narrowed := true }
def FnExactArrayValueUptoSaid : Prop := fnExactArrayValueUptoRow.holds Try.pinned (OpenSpec.upto fnExactArrayValueSpec)

/-- 'laws.FnExactKindsCore', WHERE WHAT IT READS IS OF BULK AT MOST 1048576: true; the input reads as it did. -/
def fnExactKindsCoreUptoRow : OpenClaim := { program := "ytlegadpbjccelaa", sum := "5b07a79ab0073128cb89bf7a62b4e89c2ccdf2be8e09212d1ad26359c57f19cc", func := "loop.example/g00166/laws.FnExactKindsCore", spec := "fnExactKindsCore", unfollowed := true, recurses := true, apart := false, narrowed := true }
def FnExactKindsCoreUptoSaid : Prop := fnExactKindsCoreUptoRow.holds Try.pinned (OpenSpec.upto fnExactKindsCoreSpec)

/-- 'laws.FnExactSetKey', WHERE WHAT IT READS IS OF BULK AT MOST 1048576: true; the input reads as it did. -/
def fnExactSetKeyUptoRow : OpenClaim := { program := "ytlegadpbjccelaa", sum := "5b07a79ab0073128cb89bf7a62b4e89c2ccdf2be8e09212d1ad26359c57f19cc", func := "loop.example/g00166/laws.FnExactSetKey", spec := "fnExactSetKey", unfollowed := true, recurses := true, apart := false, narrowed := true }
def FnExactSetKeyUptoSaid : Prop := fnExactSetKeyUptoRow.holds Try.pinned (OpenSpec.upto fnExactSetKeySpec)

/-- 'laws.FnExactObjectValue', WHERE WHAT IT READS IS OF BULK AT MOST 1048576: true; the input reads as it did. -/
def fnExactObjectValueUptoRow : OpenClaim := { program := "ytlegadpbjccelaa", sum := "5b07a79ab0073128cb89bf7a62b4e89c2ccdf2be8e09212d1ad26359c57f19cc", func := "loop.example/g00166/laws.FnExactObjectValue", spec := "fnExactObjectValue", unfollowed := true, recurses := true, apart := false, narrowed := true }
def FnExactObjectValueUptoSaid : Prop := fnExactObjectValueUptoRow.holds Try.pinned (OpenSpec.upto fnExactObjectValueSpec)

/-- 'laws.FnExactVarsOf', WHERE WHAT IT READS IS OF BULK AT MOST 1048576: true; the input reads as it did. -/
def fnExactVarsOfUptoRow : OpenClaim := { program := "ytlegadpbjccelaa", sum := "5b07a79ab0073128cb89bf7a62b4e89c2ccdf2be8e09212d1ad26359c57f19cc", func := "loop.example/g00166/laws.FnExactVarsOf", spec := "fnExactVarsOf", unfollowed := true, recurses := true, apart := false, narrowed := true }
def FnExactVarsOfUptoSaid : Prop := fnExactVarsOfUptoRow.holds Try.pinned (OpenSpec.upto fnExactVarsOfSpec)

/-- 'laws.FnExactReadsCore', WHERE WHAT IT READS IS OF BULK AT MOST 1048576: true; the input reads as it did. -/
def fnExactReadsCoreUptoRow : OpenClaim := { program := "ytlegadpbjccelaa", sum := "5b07a79ab0073128cb89bf7a62b4e89c2ccdf2be8e09212d1ad26359c57f19cc", func := "loop.example/g00166/laws.FnExactReadsCore", spec := "fnExactReadsCore", unfollowed := true, recurses := true, apart := false, narrowed := true }
def FnExactReadsCoreUptoSaid : Prop := fnExactReadsCoreUptoRow.holds Try.pinned (OpenSpec.upto fnExactReadsCoreSpec)

/-- 'laws.FnExactAddAll', WHERE WHAT IT READS IS OF BULK AT MOST 1048576: true; the input reads as it did. -/
def fnExactAddAllUptoRow : OpenClaim := { program := "ytlegadpbjccelaa", sum := "5b07a79ab0073128cb89bf7a62b4e89c2ccdf2be8e09212d1ad26359c57f19cc", func := "loop.example/g00166/laws.FnExactAddAll", spec := "fnExactAddAll", unfollowed := true, recurses := true, apart := false, narrowed := true }
def FnExactAddAllUptoSaid : Prop := fnExactAddAllUptoRow.holds Try.pinned (OpenSpec.upto fnExactAddAllSpec)

/-- 'laws.FnParts', WHERE WHAT IT READS IS OF BULK AT MOST 1048576: true; the input reads as it did. -/
def fnPartsUptoRow : OpenClaim := { program := "ytlegadpbjccelaa", sum := "5b07a79ab0073128cb89bf7a62b4e89c2ccdf2be8e09212d1ad26359c57f19cc", func := "loop.example/g00166/laws.FnParts", spec := "fnParts", inPlace := ["internal/bytealg.abigen_runtime_cmpstring"], unfollowed := true, recurses := true, apart := false, narrowed := true }
def FnPartsUptoSaid : Prop := fnPartsUptoRow.holds Try.pinned (OpenSpec.upto fnPartsSpec)

/-- 'laws.FnMembers', WHERE WHAT IT READS IS OF BULK AT MOST 1048576: true; the input reads as it did. -/
def fnMembersUptoRow : OpenClaim := { program := "ytlegadpbjccelaa", sum := "5b07a79ab0073128cb89bf7a62b4e89c2ccdf2be8e09212d1ad26359c57f19cc", func := "loop.example/g00166/laws.FnMembers", spec := "fnMembers", inPlace := ["internal/bytealg.abigen_runtime_cmpstring"], unfollowed := true, recurses := true, apart := false, narrowed := true }
def FnMembersUptoSaid : Prop := fnMembersUptoRow.holds Try.pinned (OpenSpec.upto fnMembersSpec)

/-- 'laws.FnExactCompileCore', WHERE WHAT IT READS IS OF BULK AT MOST 1048576: true; the input reads as it did. -/
def fnExactCompileCoreUptoRow : OpenClaim := { program := "ytlegadpbjccelaa", sum := "5b07a79ab0073128cb89bf7a62b4e89c2ccdf2be8e09212d1ad26359c57f19cc", func := "loop.example/g00166/laws.FnExactCompileCore", spec := "fnExactCompileCore", unfollowed := true, recurses := true, apart := false, narrowed := true }
def FnExactCompileCoreUptoSaid : Prop := fnExactCompileCoreUptoRow.holds Try.pinned (OpenSpec.upto fnExactCompileCoreSpec)

/-- 'laws.FnExactSortOf', WHERE WHAT IT READS IS OF BULK AT MOST 1048576: true; the input reads as it did. -/
def fnExactSortOfUptoRow : OpenClaim := { program := "ytlegadpbjccelaa", sum := "5b07a79ab0073128cb89bf7a62b4e89c2ccdf2be8e09212d1ad26359c57f19cc", func := "loop.example/g00166/laws.FnExactSortOf", spec := "fnExactSortOf", inPlace := ["internal/bytealg.abigen_runtime_cmpstring"], unfollowed := true, recurses := true, apart := false, narrowed := true }
def FnExactSortOfUptoSaid : Prop := fnExactSortOfUptoRow.holds Try.pinned (OpenSpec.upto fnExactSortOfSpec)

/-- 'laws.FnSorts', WHERE WHAT IT READS IS OF BULK AT MOST 1048576: true; the input reads as it did. -/
def fnSortsUptoRow : OpenClaim := { program := "ytlegadpbjccelaa", sum := "5b07a79ab0073128cb89bf7a62b4e89c2ccdf2be8e09212d1ad26359c57f19cc", func := "loop.example/g00166/laws.FnSorts", spec := "fnSorts", inPlace := ["internal/bytealg.abigen_runtime_cmpstring"], unfollowed := true, recurses := true, apart := false, narrowed := true }
def FnSortsUptoSaid : Prop := fnSortsUptoRow.holds Try.pinned (OpenSpec.upto fnSortsSpec)

end Rows
end Go.Proofs.Ytlegadpbjccelaa
