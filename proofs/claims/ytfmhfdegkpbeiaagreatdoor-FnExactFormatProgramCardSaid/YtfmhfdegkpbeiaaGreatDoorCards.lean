/-
  DERIVED. GIVEN WITH THE SEED: THE CARDS: each row of YtfmhfdegkpbeiaaGreatDoorRows.lean that lists a variable, with what it lists TIED to the program's text (the seventh form; the later family's looks); each row that meets fmt, with fmt's text TOLD by the authors' own Lean function (tested against real Go, not proved from fmt's source: count such statements apart). THE CARD IS WHAT COUNTS. Prove the row's statement (the work); the ties are given (YtfmhfdegkpbeiaaGreatDoorTie.lean); close each card by the builder's one call (the guide's Derived/Test/ToyasCard.lean, 'card_holds'). Laid BY PROGRAM, IN A SANDBOX (cutbox-door.mjs). By AI agents, Wed Nov 11 2026. No macro, syntax, notation, axiom, sorry.
-/
import Derived.Test.YtfmhfdegkpbeiaaGreatDoorRows
import GoSem.ClaimSeven
namespace Go.Proofs.YtfmhfdegkpbeiaaGreatDoor
namespace Rows

/-- THE TIED CARD OF 'laws.FnExactTokenText'. -/
def fnExactTokenTextCard : Claim7 := { stood := { row := fnExactTokenTextRow, standIns := [], harness := (true, "834b8ccbb80c108b0adffad4f97850357a860d3c6db0a960655db7bbe4e21e83"), looks := true }, kinds := [], alts := [], laidByText := true, laidKinds := [.data, .data, .data], laidTests := true, laidLooks := .later }
def FnExactTokenTextCardSaid : Prop := Claim7.holds Tryz.pinned (.plain (OpenSpec.ofChange fnExactTokenTextSpec)) fnExactTokenTextCard

/-- THE TIED CARD OF 'laws.FnExactJoinTokens'. -/
def fnExactJoinTokensCard : Claim7 := { stood := { row := fnExactJoinTokensRow, standIns := [], harness := (true, "834b8ccbb80c108b0adffad4f97850357a860d3c6db0a960655db7bbe4e21e83"), looks := true }, kinds := [], alts := [], laidByText := true, laidKinds := [.data, .data, .data], laidTests := true, laidLooks := .later }
def FnExactJoinTokensCardSaid : Prop := Claim7.holds Tryz.pinned (.plain (OpenSpec.ofChange fnExactJoinTokensSpec)) fnExactJoinTokensCard

/-- THE TIED CARD OF 'laws.FnExactEncodeValue'. -/
def fnExactEncodeValueCard : Claim7 := { stood := { row := fnExactEncodeValueRow, standIns := [], harness := (true, "834b8ccbb80c108b0adffad4f97850357a860d3c6db0a960655db7bbe4e21e83"), looks := true }, kinds := [], alts := [], laidByText := true, laidKinds := [.data, .data, .data], laidTests := true, laidLooks := .later }
def FnExactEncodeValueCardSaid : Prop := Claim7.holds Tryz.pinned (.plain (OpenSpec.ofChange fnExactEncodeValueSpec)) fnExactEncodeValueCard

/-- THE TIED CARD OF 'laws.FnExactEncodeAll'. -/
def fnExactEncodeAllCard : Claim7 := { stood := { row := fnExactEncodeAllRow, standIns := [], harness := (true, "834b8ccbb80c108b0adffad4f97850357a860d3c6db0a960655db7bbe4e21e83"), looks := true }, kinds := [], alts := [], laidByText := true, laidKinds := [.data, .data, .data], laidTests := true, laidLooks := .later }
def FnExactEncodeAllCardSaid : Prop := Claim7.holds Tryz.pinned (.plain (OpenSpec.ofChange fnExactEncodeAllSpec)) fnExactEncodeAllCard

/-- THE TIED CARD OF 'laws.FnExactFormatProgram'. -/
def fnExactFormatProgramCard : Claim7 := { stood := { row := fnExactFormatProgramRow, standIns := [], harness := (true, "834b8ccbb80c108b0adffad4f97850357a860d3c6db0a960655db7bbe4e21e83"), looks := true }, kinds := [], alts := [], laidByText := true, laidKinds := [.data, .data, .data], laidTests := true, laidLooks := .later }
def FnExactFormatProgramCardSaid : Prop := Claim7.holds Tryz.pinned (.plain (OpenSpec.ofChange fnExactFormatProgramSpec)) fnExactFormatProgramCard

/-- THE TIED CARD OF 'laws.FnExactCoreText'. -/
def fnExactCoreTextCard : Claim7 := { stood := { row := fnExactCoreTextRow, standIns := [], harness := (true, "834b8ccbb80c108b0adffad4f97850357a860d3c6db0a960655db7bbe4e21e83"), looks := true }, kinds := [], alts := [], laidByText := true, laidKinds := [.data, .data, .data], laidTests := true, laidLooks := .later }
def FnExactCoreTextCardSaid : Prop := Claim7.holds Tryz.pinned (.plain (OpenSpec.ofChange fnExactCoreTextSpec)) fnExactCoreTextCard

/-- THE SECOND FORM's CARD OF 'laws.FnExactTokenText'. -/
def fnExactTokenTextUptoCard : Claim7 := { stood := { row := fnExactTokenTextUptoRow, standIns := [], harness := (true, "834b8ccbb80c108b0adffad4f97850357a860d3c6db0a960655db7bbe4e21e83"), looks := true }, kinds := [], alts := [], laidByText := true, laidKinds := [.data, .data, .data], laidTests := true, laidLooks := .later }
def FnExactTokenTextUptoCardSaid : Prop := Claim7.holds Tryz.pinned (.plain (OpenSpec.upto fnExactTokenTextSpec)) fnExactTokenTextUptoCard

/-- THE SECOND FORM's CARD OF 'laws.FnExactJoinTokens'. -/
def fnExactJoinTokensUptoCard : Claim7 := { stood := { row := fnExactJoinTokensUptoRow, standIns := [], harness := (true, "834b8ccbb80c108b0adffad4f97850357a860d3c6db0a960655db7bbe4e21e83"), looks := true }, kinds := [], alts := [], laidByText := true, laidKinds := [.data, .data, .data], laidTests := true, laidLooks := .later }
def FnExactJoinTokensUptoCardSaid : Prop := Claim7.holds Tryz.pinned (.plain (OpenSpec.upto fnExactJoinTokensSpec)) fnExactJoinTokensUptoCard

/-- THE SECOND FORM's CARD OF 'laws.FnExactEncodeValue'. -/
def fnExactEncodeValueUptoCard : Claim7 := { stood := { row := fnExactEncodeValueUptoRow, standIns := [], harness := (true, "834b8ccbb80c108b0adffad4f97850357a860d3c6db0a960655db7bbe4e21e83"), looks := true }, kinds := [], alts := [], laidByText := true, laidKinds := [.data, .data, .data], laidTests := true, laidLooks := .later }
def FnExactEncodeValueUptoCardSaid : Prop := Claim7.holds Tryz.pinned (.plain (OpenSpec.upto fnExactEncodeValueSpec)) fnExactEncodeValueUptoCard

/-- THE SECOND FORM's CARD OF 'laws.FnExactEncodeAll'. -/
def fnExactEncodeAllUptoCard : Claim7 := { stood := { row := fnExactEncodeAllUptoRow, standIns := [], harness := (true, "834b8ccbb80c108b0adffad4f97850357a860d3c6db0a960655db7bbe4e21e83"), looks := true }, kinds := [], alts := [], laidByText := true, laidKinds := [.data, .data, .data], laidTests := true, laidLooks := .later }
def FnExactEncodeAllUptoCardSaid : Prop := Claim7.holds Tryz.pinned (.plain (OpenSpec.upto fnExactEncodeAllSpec)) fnExactEncodeAllUptoCard

/-- THE SECOND FORM's CARD OF 'laws.FnExactFormatProgram'. -/
def fnExactFormatProgramUptoCard : Claim7 := { stood := { row := fnExactFormatProgramUptoRow, standIns := [], harness := (true, "834b8ccbb80c108b0adffad4f97850357a860d3c6db0a960655db7bbe4e21e83"), looks := true }, kinds := [], alts := [], laidByText := true, laidKinds := [.data, .data, .data], laidTests := true, laidLooks := .later }
def FnExactFormatProgramUptoCardSaid : Prop := Claim7.holds Tryz.pinned (.plain (OpenSpec.upto fnExactFormatProgramSpec)) fnExactFormatProgramUptoCard

/-- THE SECOND FORM's CARD OF 'laws.FnExactCoreText'. -/
def fnExactCoreTextUptoCard : Claim7 := { stood := { row := fnExactCoreTextUptoRow, standIns := [], harness := (true, "834b8ccbb80c108b0adffad4f97850357a860d3c6db0a960655db7bbe4e21e83"), looks := true }, kinds := [], alts := [], laidByText := true, laidKinds := [.data, .data, .data], laidTests := true, laidLooks := .later }
def FnExactCoreTextUptoCardSaid : Prop := Claim7.holds Tryz.pinned (.plain (OpenSpec.upto fnExactCoreTextSpec)) fnExactCoreTextUptoCard
end Rows
end Go.Proofs.YtfmhfdegkpbeiaaGreatDoor
