/-
  DERIVED. GIVEN WITH THE SEED: THE CARDS: each row of YtlgfickhkejdjaaGreatDoorRows.lean that lists a variable, with what it lists TIED to the program's text (the seventh form; the later family's looks); each row that meets fmt, with fmt's text TOLD by the authors' own Lean function (tested against real Go, not proved from fmt's source: count such statements apart). THE CARD IS WHAT COUNTS. Prove the row's statement (the work); the ties are given (YtlgfickhkejdjaaGreatDoorTie.lean); close each card by the builder's one call (the guide's Derived/Test/ToyasCard.lean, 'card_holds'). Laid BY PROGRAM, IN A SANDBOX (cutbox-door.mjs). By AI agents, Wed Nov 11 2026. No macro, syntax, notation, axiom, sorry.
-/
import Derived.Test.YtlgfickhkejdjaaGreatDoorRows
import GoSem.ClaimSeven
namespace Go.Proofs.YtlgfickhkejdjaaGreatDoor
namespace Rows

/-- THE TIED CARD OF 'refmeshlaw38.SyntaxExprs'. -/
def syntaxExprsCard : Claim7 := { stood := { row := syntaxExprsRow, standIns := [], harness := (true, "daaef98072a0b99b0017365852be7946b1b35605e69d411beda70316cac4b3fd"), looks := true }, kinds := [], alts := [], laidByText := true, laidKinds := [.data, .data, .data, .data, .sentinel, .sentinel, .widerDeep, .widerDeep, .data, .data, .pinned], laidTests := true, laidLooks := .later }
def SyntaxExprsCardSaid : Prop := Claim7.holds Tryz.pinned (.plain (OpenSpec.ofChange syntaxExprsSpec)) syntaxExprsCard

/-- THE TIED CARD OF 'refmeshlaw38.SyntaxPrograms'. -/
def syntaxProgramsCard : Claim7 := { stood := { row := syntaxProgramsRow, standIns := [], harness := (true, "daaef98072a0b99b0017365852be7946b1b35605e69d411beda70316cac4b3fd"), looks := true }, kinds := [], alts := [], laidByText := true, laidKinds := [.data, .data, .data, .data, .sentinel, .sentinel, .widerDeep, .widerDeep, .data, .data, .pinned], laidTests := true, laidLooks := .later }
def SyntaxProgramsCardSaid : Prop := Claim7.holds Tryz.pinned (.plain (OpenSpec.ofChange syntaxProgramsSpec)) syntaxProgramsCard

/-- THE TIED CARD OF 'refmeshlaw38.SyntaxEquality'. -/
def syntaxEqualityCard : Claim7 := { stood := { row := syntaxEqualityRow, standIns := [], harness := (true, "daaef98072a0b99b0017365852be7946b1b35605e69d411beda70316cac4b3fd"), looks := true }, kinds := [], alts := [], laidByText := true, laidKinds := [.data, .data, .data, .data, .sentinel, .sentinel, .widerDeep, .widerDeep, .data, .data, .pinned], laidTests := true, laidLooks := .later }
def SyntaxEqualityCardSaid : Prop := Claim7.holds Tryz.pinned (.plain (OpenSpec.ofChange syntaxEqualitySpec)) syntaxEqualityCard

/-- THE TIED CARD OF 'refmeshlaw38.SyntaxInjective'. -/
def syntaxInjectiveCard : Claim7 := { stood := { row := syntaxInjectiveRow, standIns := [], harness := (true, "daaef98072a0b99b0017365852be7946b1b35605e69d411beda70316cac4b3fd"), looks := true }, kinds := [], alts := [], laidByText := true, laidKinds := [.data, .data, .data, .data, .sentinel, .sentinel, .widerDeep, .widerDeep, .data, .data, .pinned], laidTests := true, laidLooks := .later }
def SyntaxInjectiveCardSaid : Prop := Claim7.holds Tryz.pinned (.plain (OpenSpec.ofChange syntaxInjectiveSpec)) syntaxInjectiveCard

/-- THE TIED CARD OF 'refmeshlaw38.SyntaxParentheses'. -/
def syntaxParenthesesCard : Claim7 := { stood := { row := syntaxParenthesesRow, standIns := [], harness := (true, "daaef98072a0b99b0017365852be7946b1b35605e69d411beda70316cac4b3fd"), looks := true }, kinds := [], alts := [], laidByText := true, laidKinds := [.data, .data, .data, .data, .sentinel, .sentinel, .widerDeep, .widerDeep, .data, .data, .pinned], laidTests := true, laidLooks := .later }
def SyntaxParenthesesCardSaid : Prop := Claim7.holds Tryz.pinned (.plain (OpenSpec.ofChange syntaxParenthesesSpec)) syntaxParenthesesCard

/-- THE TIED CARD OF 'refmeshlaw38.SyntaxSpoiled'. -/
def syntaxSpoiledCard : Claim7 := { stood := { row := syntaxSpoiledRow, standIns := [], harness := (true, "daaef98072a0b99b0017365852be7946b1b35605e69d411beda70316cac4b3fd"), looks := true }, kinds := [], alts := [], laidByText := true, laidKinds := [.data, .data, .data, .data, .sentinel, .sentinel, .widerDeep, .widerDeep, .data, .data, .pinned], laidTests := true, laidLooks := .later }
def SyntaxSpoiledCardSaid : Prop := Claim7.holds Tryz.pinned (.plain (OpenSpec.ofChange syntaxSpoiledSpec)) syntaxSpoiledCard

/-- THE TIED CARD OF 'refmeshlaw38.SyntaxSizes'. -/
def syntaxSizesCard : Claim7 := { stood := { row := syntaxSizesRow, standIns := [], harness := (true, "daaef98072a0b99b0017365852be7946b1b35605e69d411beda70316cac4b3fd"), looks := true }, kinds := [], alts := [], laidByText := true, laidKinds := [.data, .data, .data, .data, .sentinel, .sentinel, .widerDeep, .widerDeep, .data, .data, .pinned], laidTests := true, laidLooks := .later }
def SyntaxSizesCardSaid : Prop := Claim7.holds Tryz.pinned (.plain (OpenSpec.ofChange syntaxSizesSpec)) syntaxSizesCard

/-- THE TIED CARD OF 'refmeshlaw38.SyntaxLines'. -/
def syntaxLinesCard : Claim7 := { stood := { row := syntaxLinesRow, standIns := [], harness := (true, "daaef98072a0b99b0017365852be7946b1b35605e69d411beda70316cac4b3fd"), looks := true }, kinds := [], alts := [], laidByText := true, laidKinds := [.data, .data, .data, .data, .sentinel, .sentinel, .widerDeep, .widerDeep, .data, .data, .pinned], laidTests := true, laidLooks := .later }
def SyntaxLinesCardSaid : Prop := Claim7.holds Tryz.pinned (.plain (OpenSpec.ofChange syntaxLinesSpec)) syntaxLinesCard

/-- THE SECOND FORM's CARD OF 'refmeshlaw38.SyntaxExprs'. -/
def syntaxExprsUptoCard : Claim7 := { stood := { row := syntaxExprsUptoRow, standIns := [], harness := (true, "daaef98072a0b99b0017365852be7946b1b35605e69d411beda70316cac4b3fd"), looks := true }, kinds := [], alts := [], laidByText := true, laidKinds := [.data, .data, .data, .data, .sentinel, .sentinel, .widerDeep, .widerDeep, .data, .data, .pinned], laidTests := true, laidLooks := .later }
def SyntaxExprsUptoCardSaid : Prop := Claim7.holds Tryz.pinned (.plain (OpenSpec.upto syntaxExprsSpec)) syntaxExprsUptoCard

/-- THE SECOND FORM's CARD OF 'refmeshlaw38.SyntaxPrograms'. -/
def syntaxProgramsUptoCard : Claim7 := { stood := { row := syntaxProgramsUptoRow, standIns := [], harness := (true, "daaef98072a0b99b0017365852be7946b1b35605e69d411beda70316cac4b3fd"), looks := true }, kinds := [], alts := [], laidByText := true, laidKinds := [.data, .data, .data, .data, .sentinel, .sentinel, .widerDeep, .widerDeep, .data, .data, .pinned], laidTests := true, laidLooks := .later }
def SyntaxProgramsUptoCardSaid : Prop := Claim7.holds Tryz.pinned (.plain (OpenSpec.upto syntaxProgramsSpec)) syntaxProgramsUptoCard

/-- THE SECOND FORM's CARD OF 'refmeshlaw38.SyntaxEquality'. -/
def syntaxEqualityUptoCard : Claim7 := { stood := { row := syntaxEqualityUptoRow, standIns := [], harness := (true, "daaef98072a0b99b0017365852be7946b1b35605e69d411beda70316cac4b3fd"), looks := true }, kinds := [], alts := [], laidByText := true, laidKinds := [.data, .data, .data, .data, .sentinel, .sentinel, .widerDeep, .widerDeep, .data, .data, .pinned], laidTests := true, laidLooks := .later }
def SyntaxEqualityUptoCardSaid : Prop := Claim7.holds Tryz.pinned (.plain (OpenSpec.upto syntaxEqualitySpec)) syntaxEqualityUptoCard

/-- THE SECOND FORM's CARD OF 'refmeshlaw38.SyntaxInjective'. -/
def syntaxInjectiveUptoCard : Claim7 := { stood := { row := syntaxInjectiveUptoRow, standIns := [], harness := (true, "daaef98072a0b99b0017365852be7946b1b35605e69d411beda70316cac4b3fd"), looks := true }, kinds := [], alts := [], laidByText := true, laidKinds := [.data, .data, .data, .data, .sentinel, .sentinel, .widerDeep, .widerDeep, .data, .data, .pinned], laidTests := true, laidLooks := .later }
def SyntaxInjectiveUptoCardSaid : Prop := Claim7.holds Tryz.pinned (.plain (OpenSpec.upto syntaxInjectiveSpec)) syntaxInjectiveUptoCard

/-- THE SECOND FORM's CARD OF 'refmeshlaw38.SyntaxParentheses'. -/
def syntaxParenthesesUptoCard : Claim7 := { stood := { row := syntaxParenthesesUptoRow, standIns := [], harness := (true, "daaef98072a0b99b0017365852be7946b1b35605e69d411beda70316cac4b3fd"), looks := true }, kinds := [], alts := [], laidByText := true, laidKinds := [.data, .data, .data, .data, .sentinel, .sentinel, .widerDeep, .widerDeep, .data, .data, .pinned], laidTests := true, laidLooks := .later }
def SyntaxParenthesesUptoCardSaid : Prop := Claim7.holds Tryz.pinned (.plain (OpenSpec.upto syntaxParenthesesSpec)) syntaxParenthesesUptoCard

/-- THE SECOND FORM's CARD OF 'refmeshlaw38.SyntaxSpoiled'. -/
def syntaxSpoiledUptoCard : Claim7 := { stood := { row := syntaxSpoiledUptoRow, standIns := [], harness := (true, "daaef98072a0b99b0017365852be7946b1b35605e69d411beda70316cac4b3fd"), looks := true }, kinds := [], alts := [], laidByText := true, laidKinds := [.data, .data, .data, .data, .sentinel, .sentinel, .widerDeep, .widerDeep, .data, .data, .pinned], laidTests := true, laidLooks := .later }
def SyntaxSpoiledUptoCardSaid : Prop := Claim7.holds Tryz.pinned (.plain (OpenSpec.upto syntaxSpoiledSpec)) syntaxSpoiledUptoCard

/-- THE SECOND FORM's CARD OF 'refmeshlaw38.SyntaxSizes'. -/
def syntaxSizesUptoCard : Claim7 := { stood := { row := syntaxSizesUptoRow, standIns := [], harness := (true, "daaef98072a0b99b0017365852be7946b1b35605e69d411beda70316cac4b3fd"), looks := true }, kinds := [], alts := [], laidByText := true, laidKinds := [.data, .data, .data, .data, .sentinel, .sentinel, .widerDeep, .widerDeep, .data, .data, .pinned], laidTests := true, laidLooks := .later }
def SyntaxSizesUptoCardSaid : Prop := Claim7.holds Tryz.pinned (.plain (OpenSpec.upto syntaxSizesSpec)) syntaxSizesUptoCard

/-- THE SECOND FORM's CARD OF 'refmeshlaw38.SyntaxLines'. -/
def syntaxLinesUptoCard : Claim7 := { stood := { row := syntaxLinesUptoRow, standIns := [], harness := (true, "daaef98072a0b99b0017365852be7946b1b35605e69d411beda70316cac4b3fd"), looks := true }, kinds := [], alts := [], laidByText := true, laidKinds := [.data, .data, .data, .data, .sentinel, .sentinel, .widerDeep, .widerDeep, .data, .data, .pinned], laidTests := true, laidLooks := .later }
def SyntaxLinesUptoCardSaid : Prop := Claim7.holds Tryz.pinned (.plain (OpenSpec.upto syntaxLinesSpec)) syntaxLinesUptoCard
end Rows
end Go.Proofs.YtlgfickhkejdjaaGreatDoor
