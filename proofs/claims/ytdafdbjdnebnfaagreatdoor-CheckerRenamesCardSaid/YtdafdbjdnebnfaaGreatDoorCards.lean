/-
  DERIVED. GIVEN WITH THE SEED: THE CARDS: each row of YtdafdbjdnebnfaaGreatDoorRows.lean that lists a variable, with what it lists TIED to the program's text (the seventh form; the later family's looks); each row that meets fmt, with fmt's text TOLD by the authors' own Lean function (tested against real Go, not proved from fmt's source: count such statements apart). THE CARD IS WHAT COUNTS. Prove the row's statement (the work); the ties are given (YtdafdbjdnebnfaaGreatDoorTie.lean); close each card by the builder's one call (the guide's Derived/Test/ToyasCard.lean, 'card_holds'). Laid BY PROGRAM, IN A SANDBOX (cutbox-door.mjs). By AI agents, Wed Nov 11 2026. No macro, syntax, notation, axiom, sorry.
-/
import Derived.Test.YtdafdbjdnebnfaaGreatDoorRows
import GoSem.ClaimSeven
namespace Go.Proofs.YtdafdbjdnebnfaaGreatDoor
namespace Rows

/-- THE TIED CARD OF 'refmeshlaw40.CheckerFaults'. -/
def checkerFaultsCard : Claim7 := { stood := { row := checkerFaultsRow, standIns := [], harness := (true, "3237e317f224dee667a541b52daace2006ca8d47fa4a4e33d98905dddfe43405"), looks := true }, kinds := [], alts := [], laidByText := true, laidKinds := [.data, .data, .data, .data, .sentinel, .sentinel, .widerDeep, .widerDeep, .data, .data, .data, .pinned], laidTests := true, laidLooks := .later }
def CheckerFaultsCardSaid : Prop := Claim7.holds Tryz.pinned (.plain (OpenSpec.ofChange checkerFaultsSpec)) checkerFaultsCard

/-- THE TIED CARD OF 'refmeshlaw40.CheckerExplains'. -/
def checkerExplainsCard : Claim7 := { stood := { row := checkerExplainsRow, standIns := [], harness := (true, "3237e317f224dee667a541b52daace2006ca8d47fa4a4e33d98905dddfe43405"), looks := true }, kinds := [], alts := [], laidByText := true, laidKinds := [.data, .data, .data, .data, .sentinel, .sentinel, .widerDeep, .widerDeep, .data, .data, .data, .pinned], laidTests := true, laidLooks := .later }
def CheckerExplainsCardSaid : Prop := Claim7.holds Tryz.pinned (.plain (OpenSpec.ofChange checkerExplainsSpec)) checkerExplainsCard

/-- THE TIED CARD OF 'refmeshlaw40.CheckerFinds'. -/
def checkerFindsCard : Claim7 := { stood := { row := checkerFindsRow, standIns := [], harness := (true, "3237e317f224dee667a541b52daace2006ca8d47fa4a4e33d98905dddfe43405"), looks := true }, kinds := [], alts := [], laidByText := true, laidKinds := [.data, .data, .data, .data, .sentinel, .sentinel, .widerDeep, .widerDeep, .data, .data, .data, .pinned], laidTests := true, laidLooks := .later }
def CheckerFindsCardSaid : Prop := Claim7.holds Tryz.pinned (.plain (OpenSpec.ofChange checkerFindsSpec)) checkerFindsCard

/-- THE TIED CARD OF 'refmeshlaw40.CheckerGrows'. -/
def checkerGrowsCard : Claim7 := { stood := { row := checkerGrowsRow, standIns := [], harness := (true, "3237e317f224dee667a541b52daace2006ca8d47fa4a4e33d98905dddfe43405"), looks := true }, kinds := [], alts := [], laidByText := true, laidKinds := [.data, .data, .data, .data, .sentinel, .sentinel, .widerDeep, .widerDeep, .data, .data, .data, .pinned], laidTests := true, laidLooks := .later }
def CheckerGrowsCardSaid : Prop := Claim7.holds Tryz.pinned (.plain (OpenSpec.ofChange checkerGrowsSpec)) checkerGrowsCard

/-- THE TIED CARD OF 'refmeshlaw40.CheckerReverses'. -/
def checkerReversesCard : Claim7 := { stood := { row := checkerReversesRow, standIns := [], harness := (true, "3237e317f224dee667a541b52daace2006ca8d47fa4a4e33d98905dddfe43405"), looks := true }, kinds := [], alts := [], laidByText := true, laidKinds := [.data, .data, .data, .data, .sentinel, .sentinel, .widerDeep, .widerDeep, .data, .data, .data, .pinned], laidTests := true, laidLooks := .later }
def CheckerReversesCardSaid : Prop := Claim7.holds Tryz.pinned (.plain (OpenSpec.ofChange checkerReversesSpec)) checkerReversesCard

/-- THE TIED CARD OF 'refmeshlaw40.CheckerRenames'. -/
def checkerRenamesCard : Claim7 := { stood := { row := checkerRenamesRow, standIns := [], harness := (true, "3237e317f224dee667a541b52daace2006ca8d47fa4a4e33d98905dddfe43405"), looks := true }, kinds := [], alts := [], laidByText := true, laidKinds := [.data, .data, .data, .data, .sentinel, .sentinel, .widerDeep, .widerDeep, .data, .data, .data, .pinned], laidTests := true, laidLooks := .later }
def CheckerRenamesCardSaid : Prop := Claim7.holds Tryz.pinned (.plain (OpenSpec.ofChange checkerRenamesSpec)) checkerRenamesCard

/-- THE TIED CARD OF 'refmeshlaw40.CheckerInvalid'. -/
def checkerInvalidCard : Claim7 := { stood := { row := checkerInvalidRow, standIns := [], harness := (true, "3237e317f224dee667a541b52daace2006ca8d47fa4a4e33d98905dddfe43405"), looks := true }, kinds := [], alts := [], laidByText := true, laidKinds := [.data, .data, .data, .data, .sentinel, .sentinel, .widerDeep, .widerDeep, .data, .data, .data, .pinned], laidTests := true, laidLooks := .later }
def CheckerInvalidCardSaid : Prop := Claim7.holds Tryz.pinned (.plain (OpenSpec.ofChange checkerInvalidSpec)) checkerInvalidCard

/-- THE SECOND FORM's CARD OF 'refmeshlaw40.CheckerFaults'. -/
def checkerFaultsUptoCard : Claim7 := { stood := { row := checkerFaultsUptoRow, standIns := [], harness := (true, "3237e317f224dee667a541b52daace2006ca8d47fa4a4e33d98905dddfe43405"), looks := true }, kinds := [], alts := [], laidByText := true, laidKinds := [.data, .data, .data, .data, .sentinel, .sentinel, .widerDeep, .widerDeep, .data, .data, .data, .pinned], laidTests := true, laidLooks := .later }
def CheckerFaultsUptoCardSaid : Prop := Claim7.holds Tryz.pinned (.plain (OpenSpec.upto checkerFaultsSpec)) checkerFaultsUptoCard

/-- THE SECOND FORM's CARD OF 'refmeshlaw40.CheckerExplains'. -/
def checkerExplainsUptoCard : Claim7 := { stood := { row := checkerExplainsUptoRow, standIns := [], harness := (true, "3237e317f224dee667a541b52daace2006ca8d47fa4a4e33d98905dddfe43405"), looks := true }, kinds := [], alts := [], laidByText := true, laidKinds := [.data, .data, .data, .data, .sentinel, .sentinel, .widerDeep, .widerDeep, .data, .data, .data, .pinned], laidTests := true, laidLooks := .later }
def CheckerExplainsUptoCardSaid : Prop := Claim7.holds Tryz.pinned (.plain (OpenSpec.upto checkerExplainsSpec)) checkerExplainsUptoCard

/-- THE SECOND FORM's CARD OF 'refmeshlaw40.CheckerFinds'. -/
def checkerFindsUptoCard : Claim7 := { stood := { row := checkerFindsUptoRow, standIns := [], harness := (true, "3237e317f224dee667a541b52daace2006ca8d47fa4a4e33d98905dddfe43405"), looks := true }, kinds := [], alts := [], laidByText := true, laidKinds := [.data, .data, .data, .data, .sentinel, .sentinel, .widerDeep, .widerDeep, .data, .data, .data, .pinned], laidTests := true, laidLooks := .later }
def CheckerFindsUptoCardSaid : Prop := Claim7.holds Tryz.pinned (.plain (OpenSpec.upto checkerFindsSpec)) checkerFindsUptoCard

/-- THE SECOND FORM's CARD OF 'refmeshlaw40.CheckerGrows'. -/
def checkerGrowsUptoCard : Claim7 := { stood := { row := checkerGrowsUptoRow, standIns := [], harness := (true, "3237e317f224dee667a541b52daace2006ca8d47fa4a4e33d98905dddfe43405"), looks := true }, kinds := [], alts := [], laidByText := true, laidKinds := [.data, .data, .data, .data, .sentinel, .sentinel, .widerDeep, .widerDeep, .data, .data, .data, .pinned], laidTests := true, laidLooks := .later }
def CheckerGrowsUptoCardSaid : Prop := Claim7.holds Tryz.pinned (.plain (OpenSpec.upto checkerGrowsSpec)) checkerGrowsUptoCard

/-- THE SECOND FORM's CARD OF 'refmeshlaw40.CheckerReverses'. -/
def checkerReversesUptoCard : Claim7 := { stood := { row := checkerReversesUptoRow, standIns := [], harness := (true, "3237e317f224dee667a541b52daace2006ca8d47fa4a4e33d98905dddfe43405"), looks := true }, kinds := [], alts := [], laidByText := true, laidKinds := [.data, .data, .data, .data, .sentinel, .sentinel, .widerDeep, .widerDeep, .data, .data, .data, .pinned], laidTests := true, laidLooks := .later }
def CheckerReversesUptoCardSaid : Prop := Claim7.holds Tryz.pinned (.plain (OpenSpec.upto checkerReversesSpec)) checkerReversesUptoCard

/-- THE SECOND FORM's CARD OF 'refmeshlaw40.CheckerRenames'. -/
def checkerRenamesUptoCard : Claim7 := { stood := { row := checkerRenamesUptoRow, standIns := [], harness := (true, "3237e317f224dee667a541b52daace2006ca8d47fa4a4e33d98905dddfe43405"), looks := true }, kinds := [], alts := [], laidByText := true, laidKinds := [.data, .data, .data, .data, .sentinel, .sentinel, .widerDeep, .widerDeep, .data, .data, .data, .pinned], laidTests := true, laidLooks := .later }
def CheckerRenamesUptoCardSaid : Prop := Claim7.holds Tryz.pinned (.plain (OpenSpec.upto checkerRenamesSpec)) checkerRenamesUptoCard

/-- THE SECOND FORM's CARD OF 'refmeshlaw40.CheckerInvalid'. -/
def checkerInvalidUptoCard : Claim7 := { stood := { row := checkerInvalidUptoRow, standIns := [], harness := (true, "3237e317f224dee667a541b52daace2006ca8d47fa4a4e33d98905dddfe43405"), looks := true }, kinds := [], alts := [], laidByText := true, laidKinds := [.data, .data, .data, .data, .sentinel, .sentinel, .widerDeep, .widerDeep, .data, .data, .data, .pinned], laidTests := true, laidLooks := .later }
def CheckerInvalidUptoCardSaid : Prop := Claim7.holds Tryz.pinned (.plain (OpenSpec.upto checkerInvalidSpec)) checkerInvalidUptoCard
end Rows
end Go.Proofs.YtdafdbjdnebnfaaGreatDoor
