/-
  DERIVED. GIVEN WITH THE SEED: THE CARDS: each row of YtcnmfcgmnkncaaaGreatDoorRows.lean that lists a variable, with what it lists TIED to the program's text (the seventh form; the later family's looks); each row that meets fmt, with fmt's text TOLD by the authors' own Lean function (tested against real Go, not proved from fmt's source: count such statements apart). THE CARD IS WHAT COUNTS. Prove the row's statement (the work); the ties are given (YtcnmfcgmnkncaaaGreatDoorTie.lean); close each card by the builder's one call (the guide's Derived/Test/ToyasCard.lean, 'card_holds'). Laid BY PROGRAM, IN A SANDBOX (cutbox-door.mjs). By AI agents, Wed Nov 11 2026. No macro, syntax, notation, axiom, sorry.
-/
import Derived.Test.YtcnmfcgmnkncaaaGreatDoorRows
import GoSem.ClaimSeven
namespace Go.Proofs.YtcnmfcgmnkncaaaGreatDoor
namespace Rows

/-- THE TIED CARD OF 'refmeshlaw42.CompilerPrograms'. -/
def compilerProgramsCard : Claim7 := { stood := { row := compilerProgramsRow, standIns := [], harness := (true, "2b2004f38135a15b9f305cd40acd685a703bbc576ddb82d75c94f9d594090726"), looks := true }, kinds := [], alts := [], laidByText := true, laidKinds := [.data, .data, .data, .data, .sentinel, .sentinel, .widerDeep, .widerDeep, .data, .data, .pinned], laidTests := true, laidLooks := .later }
def CompilerProgramsCardSaid : Prop := Claim7.holds Tryz.pinned (.plain (OpenSpec.ofChange compilerProgramsSpec)) compilerProgramsCard

/-- THE TIED CARD OF 'refmeshlaw42.CompilerFolds'. -/
def compilerFoldsCard : Claim7 := { stood := { row := compilerFoldsRow, standIns := [], harness := (true, "2b2004f38135a15b9f305cd40acd685a703bbc576ddb82d75c94f9d594090726"), looks := true }, kinds := [], alts := [], laidByText := true, laidKinds := [.data, .data, .data, .data, .sentinel, .sentinel, .widerDeep, .widerDeep, .data, .data, .pinned], laidTests := true, laidLooks := .later }
def CompilerFoldsCardSaid : Prop := Claim7.holds Tryz.pinned (.plain (OpenSpec.ofChange compilerFoldsSpec)) compilerFoldsCard

/-- THE TIED CARD OF 'refmeshlaw42.CompilerFoldsSafely'. -/
def compilerFoldsSafelyCard : Claim7 := { stood := { row := compilerFoldsSafelyRow, standIns := [], harness := (true, "2b2004f38135a15b9f305cd40acd685a703bbc576ddb82d75c94f9d594090726"), looks := true }, kinds := [], alts := [], laidByText := true, laidKinds := [.data, .data, .data, .data, .sentinel, .sentinel, .widerDeep, .widerDeep, .data, .data, .pinned], laidTests := true, laidLooks := .later }
def CompilerFoldsSafelyCardSaid : Prop := Claim7.holds Tryz.pinned (.plain (OpenSpec.ofChange compilerFoldsSafelySpec)) compilerFoldsSafelyCard

/-- THE TIED CARD OF 'refmeshlaw42.CompilerShapes'. -/
def compilerShapesCard : Claim7 := { stood := { row := compilerShapesRow, standIns := [], harness := (true, "2b2004f38135a15b9f305cd40acd685a703bbc576ddb82d75c94f9d594090726"), looks := true }, kinds := [], alts := [], laidByText := true, laidKinds := [.data, .data, .data, .data, .sentinel, .sentinel, .widerDeep, .widerDeep, .data, .data, .pinned], laidTests := true, laidLooks := .later }
def CompilerShapesCardSaid : Prop := Claim7.holds Tryz.pinned (.plain (OpenSpec.ofChange compilerShapesSpec)) compilerShapesCard

/-- THE TIED CARD OF 'refmeshlaw42.CompilerMethods'. -/
def compilerMethodsCard : Claim7 := { stood := { row := compilerMethodsRow, standIns := [], harness := (true, "2b2004f38135a15b9f305cd40acd685a703bbc576ddb82d75c94f9d594090726"), looks := true }, kinds := [], alts := [], laidByText := true, laidKinds := [.data, .data, .data, .data, .sentinel, .sentinel, .widerDeep, .widerDeep, .data, .data, .pinned], laidTests := true, laidLooks := .later }
def CompilerMethodsCardSaid : Prop := Claim7.holds Tryz.pinned (.plain (OpenSpec.ofChange compilerMethodsSpec)) compilerMethodsCard

/-- THE TIED CARD OF 'refmeshlaw42.CompilerExecutes'. -/
def compilerExecutesCard : Claim7 := { stood := { row := compilerExecutesRow, standIns := [], harness := (true, "2b2004f38135a15b9f305cd40acd685a703bbc576ddb82d75c94f9d594090726"), looks := true }, kinds := [], alts := [], laidByText := true, laidKinds := [.data, .data, .data, .data, .sentinel, .sentinel, .data, .widerDeep, .widerDeep, .data, .data, .pinned], laidTests := true, laidLooks := .later }
def CompilerExecutesCardSaid : Prop := Claim7.holds Tryz.pinned (.plain (OpenSpec.ofChange compilerExecutesSpec)) compilerExecutesCard

/-- THE TIED CARD OF 'refmeshlaw42.CompilerSound'. -/
def compilerSoundCard : Claim7 := { stood := { row := compilerSoundRow, standIns := [], harness := (true, "2b2004f38135a15b9f305cd40acd685a703bbc576ddb82d75c94f9d594090726"), looks := true }, kinds := [], alts := [], laidByText := true, laidKinds := [.data, .data, .data, .data, .sentinel, .sentinel, .data, .widerDeep, .widerDeep, .data, .data, .pinned], laidTests := true, laidLooks := .later }
def CompilerSoundCardSaid : Prop := Claim7.holds Tryz.pinned (.plain (OpenSpec.ofChange compilerSoundSpec)) compilerSoundCard

/-- THE SECOND FORM's CARD OF 'refmeshlaw42.CompilerPrograms'. -/
def compilerProgramsUptoCard : Claim7 := { stood := { row := compilerProgramsUptoRow, standIns := [], harness := (true, "2b2004f38135a15b9f305cd40acd685a703bbc576ddb82d75c94f9d594090726"), looks := true }, kinds := [], alts := [], laidByText := true, laidKinds := [.data, .data, .data, .data, .sentinel, .sentinel, .widerDeep, .widerDeep, .data, .data, .pinned], laidTests := true, laidLooks := .later }
def CompilerProgramsUptoCardSaid : Prop := Claim7.holds Tryz.pinned (.plain (OpenSpec.upto compilerProgramsSpec)) compilerProgramsUptoCard

/-- THE SECOND FORM's CARD OF 'refmeshlaw42.CompilerFolds'. -/
def compilerFoldsUptoCard : Claim7 := { stood := { row := compilerFoldsUptoRow, standIns := [], harness := (true, "2b2004f38135a15b9f305cd40acd685a703bbc576ddb82d75c94f9d594090726"), looks := true }, kinds := [], alts := [], laidByText := true, laidKinds := [.data, .data, .data, .data, .sentinel, .sentinel, .widerDeep, .widerDeep, .data, .data, .pinned], laidTests := true, laidLooks := .later }
def CompilerFoldsUptoCardSaid : Prop := Claim7.holds Tryz.pinned (.plain (OpenSpec.upto compilerFoldsSpec)) compilerFoldsUptoCard

/-- THE SECOND FORM's CARD OF 'refmeshlaw42.CompilerFoldsSafely'. -/
def compilerFoldsSafelyUptoCard : Claim7 := { stood := { row := compilerFoldsSafelyUptoRow, standIns := [], harness := (true, "2b2004f38135a15b9f305cd40acd685a703bbc576ddb82d75c94f9d594090726"), looks := true }, kinds := [], alts := [], laidByText := true, laidKinds := [.data, .data, .data, .data, .sentinel, .sentinel, .widerDeep, .widerDeep, .data, .data, .pinned], laidTests := true, laidLooks := .later }
def CompilerFoldsSafelyUptoCardSaid : Prop := Claim7.holds Tryz.pinned (.plain (OpenSpec.upto compilerFoldsSafelySpec)) compilerFoldsSafelyUptoCard

/-- THE SECOND FORM's CARD OF 'refmeshlaw42.CompilerShapes'. -/
def compilerShapesUptoCard : Claim7 := { stood := { row := compilerShapesUptoRow, standIns := [], harness := (true, "2b2004f38135a15b9f305cd40acd685a703bbc576ddb82d75c94f9d594090726"), looks := true }, kinds := [], alts := [], laidByText := true, laidKinds := [.data, .data, .data, .data, .sentinel, .sentinel, .widerDeep, .widerDeep, .data, .data, .pinned], laidTests := true, laidLooks := .later }
def CompilerShapesUptoCardSaid : Prop := Claim7.holds Tryz.pinned (.plain (OpenSpec.upto compilerShapesSpec)) compilerShapesUptoCard

/-- THE SECOND FORM's CARD OF 'refmeshlaw42.CompilerMethods'. -/
def compilerMethodsUptoCard : Claim7 := { stood := { row := compilerMethodsUptoRow, standIns := [], harness := (true, "2b2004f38135a15b9f305cd40acd685a703bbc576ddb82d75c94f9d594090726"), looks := true }, kinds := [], alts := [], laidByText := true, laidKinds := [.data, .data, .data, .data, .sentinel, .sentinel, .widerDeep, .widerDeep, .data, .data, .pinned], laidTests := true, laidLooks := .later }
def CompilerMethodsUptoCardSaid : Prop := Claim7.holds Tryz.pinned (.plain (OpenSpec.upto compilerMethodsSpec)) compilerMethodsUptoCard

/-- THE SECOND FORM's CARD OF 'refmeshlaw42.CompilerExecutes'. -/
def compilerExecutesUptoCard : Claim7 := { stood := { row := compilerExecutesUptoRow, standIns := [], harness := (true, "2b2004f38135a15b9f305cd40acd685a703bbc576ddb82d75c94f9d594090726"), looks := true }, kinds := [], alts := [], laidByText := true, laidKinds := [.data, .data, .data, .data, .sentinel, .sentinel, .data, .widerDeep, .widerDeep, .data, .data, .pinned], laidTests := true, laidLooks := .later }
def CompilerExecutesUptoCardSaid : Prop := Claim7.holds Tryz.pinned (.plain (OpenSpec.upto compilerExecutesSpec)) compilerExecutesUptoCard

/-- THE SECOND FORM's CARD OF 'refmeshlaw42.CompilerSound'. -/
def compilerSoundUptoCard : Claim7 := { stood := { row := compilerSoundUptoRow, standIns := [], harness := (true, "2b2004f38135a15b9f305cd40acd685a703bbc576ddb82d75c94f9d594090726"), looks := true }, kinds := [], alts := [], laidByText := true, laidKinds := [.data, .data, .data, .data, .sentinel, .sentinel, .data, .widerDeep, .widerDeep, .data, .data, .pinned], laidTests := true, laidLooks := .later }
def CompilerSoundUptoCardSaid : Prop := Claim7.holds Tryz.pinned (.plain (OpenSpec.upto compilerSoundSpec)) compilerSoundUptoCard
end Rows
end Go.Proofs.YtcnmfcgmnkncaaaGreatDoor
