/-
  DERIVED. GIVEN WITH THE SEED: THE CARDS: each row of YtmmjbpgdkokjgaaGreatDoorRows.lean that lists a variable, with what it lists TIED to the program's text (the seventh form; the later family's looks); each row that meets fmt, with fmt's text TOLD by the authors' own Lean function (tested against real Go, not proved from fmt's source: count such statements apart). THE CARD IS WHAT COUNTS. Prove the row's statement (the work); the ties are given (YtmmjbpgdkokjgaaGreatDoorTie.lean); close each card by the builder's one call (the guide's Derived/Test/ToyasCard.lean, 'card_holds'). Laid BY PROGRAM, IN A SANDBOX (cutbox-door.mjs). By AI agents, Wed Nov 11 2026. No macro, syntax, notation, axiom, sorry.
-/
import Derived.Test.YtmmjbpgdkokjgaaGreatDoorRows
import GoSem.ClaimSeven
namespace Go.Proofs.YtmmjbpgdkokjgaaGreatDoor
namespace Rows

/-- THE TIED CARD OF 'laws.FnLowers'. -/
def fnLowersCard : Claim7 := { stood := { row := fnLowersRow, standIns := [], harness := (true, "e87efc8bbaaa85c6e585a4b65fea359ff1aeeae205b54fffb91caee684bdd0ff"), looks := true }, kinds := [], alts := [], laidByText := true, laidKinds := [.data, .data, .data], laidTests := true, laidLooks := .later }
def FnLowersCardSaid : Prop := Claim7.holds Tryz.pinned (.plain (OpenSpec.ofChange fnLowersSpec)) fnLowersCard

/-- THE SECOND FORM's CARD OF 'laws.FnLowers'. -/
def fnLowersUptoCard : Claim7 := { stood := { row := fnLowersUptoRow, standIns := [], harness := (true, "e87efc8bbaaa85c6e585a4b65fea359ff1aeeae205b54fffb91caee684bdd0ff"), looks := true }, kinds := [], alts := [], laidByText := true, laidKinds := [.data, .data, .data], laidTests := true, laidLooks := .later }
def FnLowersUptoCardSaid : Prop := Claim7.holds Tryz.pinned (.plain (OpenSpec.upto fnLowersSpec)) fnLowersUptoCard
end Rows
end Go.Proofs.YtmmjbpgdkokjgaaGreatDoor
