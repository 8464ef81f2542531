/-
  No cell of these rows narrows 'for every input' (looked for: loops, veiled, ifaces, maps, wideKeys, modest, calm, conditions, laid).
  DERIVED. THE GIVEN ROWS OF THIS SEAT. 7 by the template 'for every input the law returns true; each argument reads behind the call as it read before'; 0 by the template 'total and deterministic' (their statements: YtbbehfcdbdmipaaTotals.lean).
  GIVEN WITH THE SEED: the statements are not yours to turn. If you find one false, say at which input.
  Laid BY PROGRAM, IN A SANDBOX (cutbox-rows.mjs): the forced cells as the released guide's own fill.sh prints them over the translation 2fd01300964ac619… (all of the seat's roots in one cut). By AI agents, Wed Nov 11 2026. No macro, syntax, notation, axiom, sorry.
-/
import Derived.Test.YtbbehfcdbdmipaaChecked
import GoSem.Claim
import GoSem.ClaimJoined
import GoSem.ClaimMapViews
import Derived.JoinedTies
import Derived.KernelRfl
namespace Go.Proofs.Ytbbehfcdbdmipaa
/- THE CELL 'sum', in the pinned program and in every row, IS THE sha256 OF THE DUMP (.gsa) THAT YtbbehfcdbdmipaaProg.lean LOADS. Nothing in Lean hashes anything: it is a label: what it is worth is what the hold of that sum in a sandbox is worth. -/
noncomputable def Try.pinned : Pinned := { name := "ytbbehfcdbdmipaa", sum := "2fd01300964ac619e24cbf7a8d3e10ab589087964ae86729b86f865f7f72353f", checked := Try.checked }
namespace Rows
def none {H : Type} : Left H := { results := [], args := [] }

/-- 'laws.FnExactConstants': WHATEVER THE INPUT: true; the input reads as it did. -/
def fnExactConstantsSpec : ChangeSpec := { name := "fnExactConstants", fn := fun _ => fun
  | [] => { results := [.lit (.bool true)], args := [] }
  | _ => none }
def fnExactConstantsRow : OpenClaim := { program := "ytbbehfcdbdmipaa", sum := "2fd01300964ac619e24cbf7a8d3e10ab589087964ae86729b86f865f7f72353f", func := "loop.example/g00166/laws.FnExactConstants", spec := "fnExactConstants", apart := false }
def FnExactConstantsSaid : Prop := fnExactConstantsRow.holds Try.pinned (OpenSpec.ofChange fnExactConstantsSpec)

/-- ITS FALSE NEIGHBOUR: 'it returns false'. Refute it at one input. -/
def fnExactConstantsWrong : ChangeSpec := { name := "fnExactConstants", fn := fun _ => fun
  | [] => { results := [.lit (.bool false)], args := [] }
  | _ => none }
def FnExactConstantsWrongFalsely : Prop := fnExactConstantsRow.holds Try.pinned (OpenSpec.ofChange fnExactConstantsWrong)

/-- 'laws.FnExactIsWord': WHATEVER THE INPUT: true; the input reads as it did. -/
def fnExactIsWordSpec : ChangeSpec := { name := "fnExactIsWord", fn := fun _ => fun
  | [d] => { results := [.lit (.bool true)], args := [d] }
  | _ => none }
def fnExactIsWordRow : OpenClaim := { program := "ytbbehfcdbdmipaa", sum := "2fd01300964ac619e24cbf7a8d3e10ab589087964ae86729b86f865f7f72353f", func := "loop.example/g00166/laws.FnExactIsWord", spec := "fnExactIsWord", apart := false }
def FnExactIsWordSaid : Prop := fnExactIsWordRow.holds Try.pinned (OpenSpec.ofChange fnExactIsWordSpec)

/-- ITS FALSE NEIGHBOUR: 'it returns false'. Refute it at one input. -/
def fnExactIsWordWrong : ChangeSpec := { name := "fnExactIsWord", fn := fun _ => fun
  | [d] => { results := [.lit (.bool false)], args := [d] }
  | _ => none }
def FnExactIsWordWrongFalsely : Prop := fnExactIsWordRow.holds Try.pinned (OpenSpec.ofChange fnExactIsWordWrong)

/-- 'laws.FnExactIsName': WHATEVER THE INPUT: true; the input reads as it did. -/
def fnExactIsNameSpec : ChangeSpec := { name := "fnExactIsName", fn := fun _ => fun
  | [d] => { results := [.lit (.bool true)], args := [d] }
  | _ => none }
def fnExactIsNameRow : OpenClaim := { program := "ytbbehfcdbdmipaa", sum := "2fd01300964ac619e24cbf7a8d3e10ab589087964ae86729b86f865f7f72353f", func := "loop.example/g00166/laws.FnExactIsName", spec := "fnExactIsName", apart := false }
def FnExactIsNameSaid : Prop := fnExactIsNameRow.holds Try.pinned (OpenSpec.ofChange fnExactIsNameSpec)

/-- ITS FALSE NEIGHBOUR: 'it returns false'. Refute it at one input. -/
def fnExactIsNameWrong : ChangeSpec := { name := "fnExactIsName", fn := fun _ => fun
  | [d] => { results := [.lit (.bool false)], args := [d] }
  | _ => none }
def FnExactIsNameWrongFalsely : Prop := fnExactIsNameRow.holds Try.pinned (OpenSpec.ofChange fnExactIsNameWrong)

/-- 'laws.FnExactSkipBlanks': WHATEVER THE INPUT: true; the input reads as it did. -/
def fnExactSkipBlanksSpec : ChangeSpec := { name := "fnExactSkipBlanks", fn := fun _ => fun
  | [d1, d2] => { results := [.lit (.bool true)], args := [d1, d2] }
  | _ => none }
def fnExactSkipBlanksRow : OpenClaim := { program := "ytbbehfcdbdmipaa", sum := "2fd01300964ac619e24cbf7a8d3e10ab589087964ae86729b86f865f7f72353f", func := "loop.example/g00166/laws.FnExactSkipBlanks", spec := "fnExactSkipBlanks", apart := false }
def FnExactSkipBlanksSaid : Prop := fnExactSkipBlanksRow.holds Try.pinned (OpenSpec.ofChange fnExactSkipBlanksSpec)

/-- ITS FALSE NEIGHBOUR: 'it returns false'. Refute it at one input. -/
def fnExactSkipBlanksWrong : ChangeSpec := { name := "fnExactSkipBlanks", fn := fun _ => fun
  | [d1, d2] => { results := [.lit (.bool false)], args := [d1, d2] }
  | _ => none }
def FnExactSkipBlanksWrongFalsely : Prop := fnExactSkipBlanksRow.holds Try.pinned (OpenSpec.ofChange fnExactSkipBlanksWrong)

/-- 'laws.FnExactFitsCount': WHATEVER THE INPUT: true; the input reads as it did. -/
def fnExactFitsCountSpec : ChangeSpec := { name := "fnExactFitsCount", fn := fun _ => fun
  | [d1, d2] => { results := [.lit (.bool true)], args := [d1, d2] }
  | _ => none }
def fnExactFitsCountRow : OpenClaim := { program := "ytbbehfcdbdmipaa", sum := "2fd01300964ac619e24cbf7a8d3e10ab589087964ae86729b86f865f7f72353f", func := "loop.example/g00166/laws.FnExactFitsCount", spec := "fnExactFitsCount", apart := false }
def FnExactFitsCountSaid : Prop := fnExactFitsCountRow.holds Try.pinned (OpenSpec.ofChange fnExactFitsCountSpec)

/-- ITS FALSE NEIGHBOUR: 'it returns false'. Refute it at one input. -/
def fnExactFitsCountWrong : ChangeSpec := { name := "fnExactFitsCount", fn := fun _ => fun
  | [d1, d2] => { results := [.lit (.bool false)], args := [d1, d2] }
  | _ => none }
def FnExactFitsCountWrongFalsely : Prop := fnExactFitsCountRow.holds Try.pinned (OpenSpec.ofChange fnExactFitsCountWrong)

/-- 'laws.FnExactValueFault': WHATEVER THE INPUT: true; the input reads as it did. -/
def fnExactValueFaultSpec : ChangeSpec := { name := "fnExactValueFault", fn := fun _ => fun
  | [d] => { results := [.lit (.bool true)], args := [d] }
  | _ => none }
def fnExactValueFaultRow : OpenClaim := { program := "ytbbehfcdbdmipaa", sum := "2fd01300964ac619e24cbf7a8d3e10ab589087964ae86729b86f865f7f72353f", func := "loop.example/g00166/laws.FnExactValueFault", spec := "fnExactValueFault", recurses := true, apart := false }
def FnExactValueFaultSaid : Prop := fnExactValueFaultRow.holds Try.pinned (OpenSpec.ofChange fnExactValueFaultSpec)

/-- ITS FALSE NEIGHBOUR: 'it returns false'. Refute it at one input. -/
def fnExactValueFaultWrong : ChangeSpec := { name := "fnExactValueFault", fn := fun _ => fun
  | [d] => { results := [.lit (.bool false)], args := [d] }
  | _ => none }
def FnExactValueFaultWrongFalsely : Prop := fnExactValueFaultRow.holds Try.pinned (OpenSpec.ofChange fnExactValueFaultWrong)

/-- 'laws.FnExactTruthy': WHATEVER THE INPUT: true; the input reads as it did. -/
def fnExactTruthySpec : ChangeSpec := { name := "fnExactTruthy", fn := fun _ => fun
  | [d] => { results := [.lit (.bool true)], args := [d] }
  | _ => none }
def fnExactTruthyRow : OpenClaim := { program := "ytbbehfcdbdmipaa", sum := "2fd01300964ac619e24cbf7a8d3e10ab589087964ae86729b86f865f7f72353f", func := "loop.example/g00166/laws.FnExactTruthy", spec := "fnExactTruthy", recurses := true, apart := false }
def FnExactTruthySaid : Prop := fnExactTruthyRow.holds Try.pinned (OpenSpec.ofChange fnExactTruthySpec)

/-- ITS FALSE NEIGHBOUR: 'it returns false'. Refute it at one input. -/
def fnExactTruthyWrong : ChangeSpec := { name := "fnExactTruthy", fn := fun _ => fun
  | [d] => { results := [.lit (.bool false)], args := [d] }
  | _ => none }
def FnExactTruthyWrongFalsely : Prop := fnExactTruthyRow.holds Try.pinned (OpenSpec.ofChange fnExactTruthyWrong)

/- THE SECOND FORM. 'bulk': how many values and letters a reading holds, each counted each time it is reached (what is shared counts as often as it is met; a slice's spare places count too). A statement '..UptoSaid' is the law's where the arguments, and the package variables that the reading takes, are together of bulk at most 1048576: NARROWER than '..Said'. Prove '..Said' where nothing that the law and all that it calls make is longer than what came in: it says more and counts as full. Else prove '..UptoSaid'. A law counts once. -/
mutual
def uptoBulk {H : Type} : DataW H → Nat
  | .lit (.string bytes) => bytes.length + 1
  | .lit _ => 1
  | .nil => 1
  | .ptr d => uptoBulk d + 1
  | .slice elems spare => uptoBulkAll elems + uptoBulkAll spare + 1
  | .agg parts => uptoBulkAll parts + 1
  | .iface _ d => uptoBulk d + 1
  | .map entries => uptoBulkEntries entries + 1
  | .held _ => 1
def uptoBulkAll {H : Type} : List (DataW H) → Nat
  | [] => 0
  | d :: r => uptoBulk d + uptoBulkAll r
def uptoBulkEntries {H : Type} : List (Lit × DataW H) → Nat
  | [] => 0
  | x :: r => uptoBulkEntry x + uptoBulkEntries r
def uptoBulkEntry {H : Type} : Lit × DataW H → Nat
  | (.string bytes, d) => bytes.length + uptoBulk d + 1
  | (_, d) => uptoBulk d + 1
 end
def uptoSmall : (H : Type) → List (DataW H) → Bool := fun _ ds => decide (uptoBulkAll ds ≤ 1048576)
def OpenSpec.upto (s : _root_.Go.ChangeSpec) : _root_.Go.OpenSpec := { _root_.Go.OpenSpec.ofChange s with cond := some uptoSmall }

/-- 'laws.FnExactConstants', WHERE WHAT IT READS IS OF BULK AT MOST 1048576: true; the input reads as it did. -/
def fnExactConstantsUptoRow : OpenClaim := { program := "ytbbehfcdbdmipaa", sum := "2fd01300964ac619e24cbf7a8d3e10ab589087964ae86729b86f865f7f72353f", func := "loop.example/g00166/laws.FnExactConstants", spec := "fnExactConstants", apart := false, narrowed := true }
def FnExactConstantsUptoSaid : Prop := fnExactConstantsUptoRow.holds Try.pinned (OpenSpec.upto fnExactConstantsSpec)

/-- 'laws.FnExactIsWord', WHERE WHAT IT READS IS OF BULK AT MOST 1048576: true; the input reads as it did. -/
def fnExactIsWordUptoRow : OpenClaim := { program := "ytbbehfcdbdmipaa", sum := "2fd01300964ac619e24cbf7a8d3e10ab589087964ae86729b86f865f7f72353f", func := "loop.example/g00166/laws.FnExactIsWord", spec := "fnExactIsWord", apart := false, narrowed := true }
def FnExactIsWordUptoSaid : Prop := fnExactIsWordUptoRow.holds Try.pinned (OpenSpec.upto fnExactIsWordSpec)

/-- 'laws.FnExactIsName', WHERE WHAT IT READS IS OF BULK AT MOST 1048576: true; the input reads as it did. -/
def fnExactIsNameUptoRow : OpenClaim := { program := "ytbbehfcdbdmipaa", sum := "2fd01300964ac619e24cbf7a8d3e10ab589087964ae86729b86f865f7f72353f", func := "loop.example/g00166/laws.FnExactIsName", spec := "fnExactIsName", apart := false, narrowed := true }
def FnExactIsNameUptoSaid : Prop := fnExactIsNameUptoRow.holds Try.pinned (OpenSpec.upto fnExactIsNameSpec)

/-- 'laws.FnExactSkipBlanks', WHERE WHAT IT READS IS OF BULK AT MOST 1048576: true; the input reads as it did. -/
def fnExactSkipBlanksUptoRow : OpenClaim := { program := "ytbbehfcdbdmipaa", sum := "2fd01300964ac619e24cbf7a8d3e10ab589087964ae86729b86f865f7f72353f", func := "loop.example/g00166/laws.FnExactSkipBlanks", spec := "fnExactSkipBlanks", apart := false, narrowed := true }
def FnExactSkipBlanksUptoSaid : Prop := fnExactSkipBlanksUptoRow.holds Try.pinned (OpenSpec.upto fnExactSkipBlanksSpec)

/-- 'laws.FnExactFitsCount', WHERE WHAT IT READS IS OF BULK AT MOST 1048576: true; the input reads as it did. -/
def fnExactFitsCountUptoRow : OpenClaim := { program := "ytbbehfcdbdmipaa", sum := "2fd01300964ac619e24cbf7a8d3e10ab589087964ae86729b86f865f7f72353f", func := "loop.example/g00166/laws.FnExactFitsCount", spec := "fnExactFitsCount", apart := false, narrowed := true }
def FnExactFitsCountUptoSaid : Prop := fnExactFitsCountUptoRow.holds Try.pinned (OpenSpec.upto fnExactFitsCountSpec)

/-- 'laws.FnExactValueFault', WHERE WHAT IT READS IS OF BULK AT MOST 1048576: true; the input reads as it did. -/
def fnExactValueFaultUptoRow : OpenClaim := { program := "ytbbehfcdbdmipaa", sum := "2fd01300964ac619e24cbf7a8d3e10ab589087964ae86729b86f865f7f72353f", func := "loop.example/g00166/laws.FnExactValueFault", spec := "fnExactValueFault", recurses := true, apart := false, narrowed := true }
def FnExactValueFaultUptoSaid : Prop := fnExactValueFaultUptoRow.holds Try.pinned (OpenSpec.upto fnExactValueFaultSpec)

/-- 'laws.FnExactTruthy', WHERE WHAT IT READS IS OF BULK AT MOST 1048576: true; the input reads as it did. -/
def fnExactTruthyUptoRow : OpenClaim := { program := "ytbbehfcdbdmipaa", sum := "2fd01300964ac619e24cbf7a8d3e10ab589087964ae86729b86f865f7f72353f", func := "loop.example/g00166/laws.FnExactTruthy", spec := "fnExactTruthy", recurses := true, apart := false, narrowed := true }
def FnExactTruthyUptoSaid : Prop := fnExactTruthyUptoRow.holds Try.pinned (OpenSpec.upto fnExactTruthySpec)

end Rows
end Go.Proofs.Ytbbehfcdbdmipaa
