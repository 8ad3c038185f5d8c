/-
  DERIVED. GIVEN WITH THE SEED: THE CARDS: each row of YtlhkkniebaganaaGreatDoorRows.lean that lists a variable, with what it lists TIED to the program's text (the seventh form; the later family's looks); each row that meets fmt, with fmt's text TOLD by the authors' own Lean function (tested against real Go, not proved from fmt's source: count such statements apart). THE CARD IS WHAT COUNTS. Prove the row's statement (the work); the ties are given (YtlhkkniebaganaaGreatDoorTie.lean); close each card by the builder's one call (the guide's Derived/Test/ToyasCard.lean, 'card_holds'). Laid BY PROGRAM, IN A SANDBOX (cutbox-door.mjs). By AI agents, Wed Nov 11 2026. No macro, syntax, notation, axiom, sorry.
-/
import Derived.Test.YtlhkkniebaganaaGreatDoorRows
import GoSem.ClaimSeven
namespace Go.Proofs.YtlhkkniebaganaaGreatDoor
namespace Rows

/-- THE TIED CARD OF 'refmeshlaw21.IdentitySets'. -/
def identitySetsCard : Claim7 := { stood := { row := identitySetsRow, standIns := [], harness := (true, "54ac2a7d70f8a4f2610e5e056091113fdfd77b454f764d87e44da09610d80c75"), looks := true }, kinds := [], alts := [], laidByText := true, laidKinds := [.data, .data, .data, .data, .sentinel, .sentinel, .pinned], laidTests := true, laidLooks := .later }
def IdentitySetsCardSaid : Prop := Claim7.holds Tryz.pinned (.plain (OpenSpec.ofChange identitySetsSpec)) identitySetsCard

/-- THE TIED CARD OF 'refmeshlaw21.IdentityAlgebra'. -/
def identityAlgebraCard : Claim7 := { stood := { row := identityAlgebraRow, standIns := [], harness := (true, "54ac2a7d70f8a4f2610e5e056091113fdfd77b454f764d87e44da09610d80c75"), looks := true }, kinds := [], alts := [], laidByText := true, laidKinds := [.data, .data, .data, .data, .sentinel, .sentinel, .pinned], laidTests := true, laidLooks := .later }
def IdentityAlgebraCardSaid : Prop := Claim7.holds Tryz.pinned (.plain (OpenSpec.ofChange identityAlgebraSpec)) identityAlgebraCard

/-- THE SECOND FORM's CARD OF 'refmeshlaw21.IdentitySets'. -/
def identitySetsUptoCard : Claim7 := { stood := { row := identitySetsUptoRow, standIns := [], harness := (true, "54ac2a7d70f8a4f2610e5e056091113fdfd77b454f764d87e44da09610d80c75"), looks := true }, kinds := [], alts := [], laidByText := true, laidKinds := [.data, .data, .data, .data, .sentinel, .sentinel, .pinned], laidTests := true, laidLooks := .later }
def IdentitySetsUptoCardSaid : Prop := Claim7.holds Tryz.pinned (.plain (OpenSpec.upto identitySetsSpec)) identitySetsUptoCard

/-- THE SECOND FORM's CARD OF 'refmeshlaw21.IdentityAlgebra'. -/
def identityAlgebraUptoCard : Claim7 := { stood := { row := identityAlgebraUptoRow, standIns := [], harness := (true, "54ac2a7d70f8a4f2610e5e056091113fdfd77b454f764d87e44da09610d80c75"), looks := true }, kinds := [], alts := [], laidByText := true, laidKinds := [.data, .data, .data, .data, .sentinel, .sentinel, .pinned], laidTests := true, laidLooks := .later }
def IdentityAlgebraUptoCardSaid : Prop := Claim7.holds Tryz.pinned (.plain (OpenSpec.upto identityAlgebraSpec)) identityAlgebraUptoCard
end Rows
end Go.Proofs.YtlhkkniebaganaaGreatDoor
