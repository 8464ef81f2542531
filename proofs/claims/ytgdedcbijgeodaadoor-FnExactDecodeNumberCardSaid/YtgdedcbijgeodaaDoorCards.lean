/-
  DERIVED. GIVEN WITH THE SEED: THE CARDS: each row of YtgdedcbijgeodaaDoorRows.lean that lists a variable, with what it lists TIED to the program's text (the seventh form; the later family's looks); each row that meets fmt, with fmt's text TOLD by the authors' own Lean function (tested against real Go, not proved from fmt's source: count such statements apart). THE CARD IS WHAT COUNTS. Prove the row's statement (the work); the ties are given (YtgdedcbijgeodaaDoorTie.lean); close each card by the builder's one call (the guide's Derived/Test/ToyasCard.lean, 'card_holds'). Laid BY PROGRAM, IN A SANDBOX (cutbox-door.mjs). By AI agents, Wed Nov 11 2026. No macro, syntax, notation, axiom, sorry.
-/
import Derived.Test.YtgdedcbijgeodaaDoorRows
import GoSem.ClaimSeven
namespace Go.Proofs.YtgdedcbijgeodaaDoor
namespace Rows

/-- THE TIED CARD OF 'laws.FnExactDecodeNumber'. -/
def fnExactDecodeNumberCard : Claim7 := { stood := { row := fnExactDecodeNumberRow, standIns := [], harness := (true, "8879280ecb4c810b5ca298788a6a02f5dbe22c4fbe98b12c680b87955c7f10bc"), looks := true }, kinds := [], alts := [], laidByText := true, laidKinds := [.data, .data, .data, .sentinel, .sentinel], laidTests := true, laidLooks := .later }
def FnExactDecodeNumberCardSaid : Prop := Claim7.holds Tryd.pinned (.plain (OpenSpec.ofChange fnExactDecodeNumberSpec)) fnExactDecodeNumberCard

/-- THE SECOND FORM's CARD OF 'laws.FnExactDecodeNumber'. -/
def fnExactDecodeNumberUptoCard : Claim7 := { stood := { row := fnExactDecodeNumberUptoRow, standIns := [], harness := (true, "8879280ecb4c810b5ca298788a6a02f5dbe22c4fbe98b12c680b87955c7f10bc"), looks := true }, kinds := [], alts := [], laidByText := true, laidKinds := [.data, .data, .data, .sentinel, .sentinel], laidTests := true, laidLooks := .later }
def FnExactDecodeNumberUptoCardSaid : Prop := Claim7.holds Tryd.pinned (.plain (OpenSpec.upto fnExactDecodeNumberSpec)) fnExactDecodeNumberUptoCard
end Rows
end Go.Proofs.YtgdedcbijgeodaaDoor
