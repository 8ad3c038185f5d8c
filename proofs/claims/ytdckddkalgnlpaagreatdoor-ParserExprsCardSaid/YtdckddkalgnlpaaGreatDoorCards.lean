/-
  DERIVED. GIVEN WITH THE SEED: THE CARDS: each row of YtdckddkalgnlpaaGreatDoorRows.lean that lists a variable, with what it lists TIED to the program's text (the seventh form; the later family's looks); each row that meets fmt, with fmt's text TOLD by the authors' own Lean function (tested against real Go, not proved from fmt's source: count such statements apart). THE CARD IS WHAT COUNTS. Prove the row's statement (the work); the ties are given (YtdckddkalgnlpaaGreatDoorTie.lean); close each card by the builder's one call (the guide's Derived/Test/ToyasCard.lean, 'card_holds'). Laid BY PROGRAM, IN A SANDBOX (cutbox-door.mjs). By AI agents, Wed Nov 11 2026. No macro, syntax, notation, axiom, sorry.
-/
import Derived.Test.YtdckddkalgnlpaaGreatDoorRows
import GoSem.ClaimSeven
namespace Go.Proofs.YtdckddkalgnlpaaGreatDoor
namespace Rows

/-- THE TIED CARD OF 'refmeshlaw39.ParserPrograms'. -/
def parserProgramsCard : Claim7 := { stood := { row := parserProgramsRow, standIns := [], harness := (true, "e26589a9e50262277315a08308d117d5d404530611515ab4d43bd9033e6f7101"), looks := true }, kinds := [], alts := [], laidByText := true, laidKinds := [.data, .data, .data, .data, .sentinel, .sentinel, .widerDeep, .widerDeep, .pinned], laidTests := true, laidLooks := .later }
def ParserProgramsCardSaid : Prop := Claim7.holds Tryz.pinned (.plain (OpenSpec.ofChange parserProgramsSpec)) parserProgramsCard

/-- THE TIED CARD OF 'refmeshlaw39.ParserExprs'. -/
def parserExprsCard : Claim7 := { stood := { row := parserExprsRow, standIns := [], harness := (true, "e26589a9e50262277315a08308d117d5d404530611515ab4d43bd9033e6f7101"), looks := true }, kinds := [], alts := [], laidByText := true, laidKinds := [.data, .data, .data, .data, .sentinel, .sentinel, .widerDeep, .widerDeep, .pinned], laidTests := true, laidLooks := .later }
def ParserExprsCardSaid : Prop := Claim7.holds Tryz.pinned (.plain (OpenSpec.ofChange parserExprsSpec)) parserExprsCard

/-- THE TIED CARD OF 'refmeshlaw39.ParserOffsets'. -/
def parserOffsetsCard : Claim7 := { stood := { row := parserOffsetsRow, standIns := [], harness := (true, "e26589a9e50262277315a08308d117d5d404530611515ab4d43bd9033e6f7101"), looks := true }, kinds := [], alts := [], laidByText := true, laidKinds := [.data, .data, .data, .data, .sentinel, .sentinel, .widerDeep, .widerDeep, .pinned], laidTests := true, laidLooks := .later }
def ParserOffsetsCardSaid : Prop := Claim7.holds Tryz.pinned (.plain (OpenSpec.ofChange parserOffsetsSpec)) parserOffsetsCard

/-- THE TIED CARD OF 'refmeshlaw39.ParserJoins'. -/
def parserJoinsCard : Claim7 := { stood := { row := parserJoinsRow, standIns := [], harness := (true, "e26589a9e50262277315a08308d117d5d404530611515ab4d43bd9033e6f7101"), looks := true }, kinds := [], alts := [], laidByText := true, laidKinds := [.data, .data, .data, .data, .sentinel, .sentinel, .widerDeep, .widerDeep, .pinned], laidTests := true, laidLooks := .later }
def ParserJoinsCardSaid : Prop := Claim7.holds Tryz.pinned (.plain (OpenSpec.ofChange parserJoinsSpec)) parserJoinsCard

/-- THE TIED CARD OF 'refmeshlaw39.ParserSpaces'. -/
def parserSpacesCard : Claim7 := { stood := { row := parserSpacesRow, standIns := [], harness := (true, "e26589a9e50262277315a08308d117d5d404530611515ab4d43bd9033e6f7101"), looks := true }, kinds := [], alts := [], laidByText := true, laidKinds := [.data, .data, .data, .data, .sentinel, .sentinel, .widerDeep, .widerDeep, .pinned], laidTests := true, laidLooks := .later }
def ParserSpacesCardSaid : Prop := Claim7.holds Tryz.pinned (.plain (OpenSpec.ofChange parserSpacesSpec)) parserSpacesCard

/-- THE TIED CARD OF 'refmeshlaw39.ParserValid'. -/
def parserValidCard : Claim7 := { stood := { row := parserValidRow, standIns := [], harness := (true, "e26589a9e50262277315a08308d117d5d404530611515ab4d43bd9033e6f7101"), looks := true }, kinds := [], alts := [], laidByText := true, laidKinds := [.data, .data, .data, .data, .sentinel, .sentinel, .widerDeep, .widerDeep, .data, .data, .pinned], laidTests := true, laidLooks := .later }
def ParserValidCardSaid : Prop := Claim7.holds Tryz.pinned (.plain (OpenSpec.ofChange parserValidSpec)) parserValidCard

/-- THE SECOND FORM's CARD OF 'refmeshlaw39.ParserPrograms'. -/
def parserProgramsUptoCard : Claim7 := { stood := { row := parserProgramsUptoRow, standIns := [], harness := (true, "e26589a9e50262277315a08308d117d5d404530611515ab4d43bd9033e6f7101"), looks := true }, kinds := [], alts := [], laidByText := true, laidKinds := [.data, .data, .data, .data, .sentinel, .sentinel, .widerDeep, .widerDeep, .pinned], laidTests := true, laidLooks := .later }
def ParserProgramsUptoCardSaid : Prop := Claim7.holds Tryz.pinned (.plain (OpenSpec.upto parserProgramsSpec)) parserProgramsUptoCard

/-- THE SECOND FORM's CARD OF 'refmeshlaw39.ParserExprs'. -/
def parserExprsUptoCard : Claim7 := { stood := { row := parserExprsUptoRow, standIns := [], harness := (true, "e26589a9e50262277315a08308d117d5d404530611515ab4d43bd9033e6f7101"), looks := true }, kinds := [], alts := [], laidByText := true, laidKinds := [.data, .data, .data, .data, .sentinel, .sentinel, .widerDeep, .widerDeep, .pinned], laidTests := true, laidLooks := .later }
def ParserExprsUptoCardSaid : Prop := Claim7.holds Tryz.pinned (.plain (OpenSpec.upto parserExprsSpec)) parserExprsUptoCard

/-- THE SECOND FORM's CARD OF 'refmeshlaw39.ParserOffsets'. -/
def parserOffsetsUptoCard : Claim7 := { stood := { row := parserOffsetsUptoRow, standIns := [], harness := (true, "e26589a9e50262277315a08308d117d5d404530611515ab4d43bd9033e6f7101"), looks := true }, kinds := [], alts := [], laidByText := true, laidKinds := [.data, .data, .data, .data, .sentinel, .sentinel, .widerDeep, .widerDeep, .pinned], laidTests := true, laidLooks := .later }
def ParserOffsetsUptoCardSaid : Prop := Claim7.holds Tryz.pinned (.plain (OpenSpec.upto parserOffsetsSpec)) parserOffsetsUptoCard

/-- THE SECOND FORM's CARD OF 'refmeshlaw39.ParserJoins'. -/
def parserJoinsUptoCard : Claim7 := { stood := { row := parserJoinsUptoRow, standIns := [], harness := (true, "e26589a9e50262277315a08308d117d5d404530611515ab4d43bd9033e6f7101"), looks := true }, kinds := [], alts := [], laidByText := true, laidKinds := [.data, .data, .data, .data, .sentinel, .sentinel, .widerDeep, .widerDeep, .pinned], laidTests := true, laidLooks := .later }
def ParserJoinsUptoCardSaid : Prop := Claim7.holds Tryz.pinned (.plain (OpenSpec.upto parserJoinsSpec)) parserJoinsUptoCard

/-- THE SECOND FORM's CARD OF 'refmeshlaw39.ParserSpaces'. -/
def parserSpacesUptoCard : Claim7 := { stood := { row := parserSpacesUptoRow, standIns := [], harness := (true, "e26589a9e50262277315a08308d117d5d404530611515ab4d43bd9033e6f7101"), looks := true }, kinds := [], alts := [], laidByText := true, laidKinds := [.data, .data, .data, .data, .sentinel, .sentinel, .widerDeep, .widerDeep, .pinned], laidTests := true, laidLooks := .later }
def ParserSpacesUptoCardSaid : Prop := Claim7.holds Tryz.pinned (.plain (OpenSpec.upto parserSpacesSpec)) parserSpacesUptoCard

/-- THE SECOND FORM's CARD OF 'refmeshlaw39.ParserValid'. -/
def parserValidUptoCard : Claim7 := { stood := { row := parserValidUptoRow, standIns := [], harness := (true, "e26589a9e50262277315a08308d117d5d404530611515ab4d43bd9033e6f7101"), looks := true }, kinds := [], alts := [], laidByText := true, laidKinds := [.data, .data, .data, .data, .sentinel, .sentinel, .widerDeep, .widerDeep, .data, .data, .pinned], laidTests := true, laidLooks := .later }
def ParserValidUptoCardSaid : Prop := Claim7.holds Tryz.pinned (.plain (OpenSpec.upto parserValidSpec)) parserValidUptoCard
end Rows
end Go.Proofs.YtdckddkalgnlpaaGreatDoor
