/-
  Trees of the language: the program's validStmt, walked.
-/
import Derived.Test.YtlgfickhkejdjaaGreatDoorMTrProgB
import Derived.Test.YtlgfickhkejdjaaGreatDoorMTrB
namespace Go.Proofs.YtlgfickhkejdjaaGreatDoor
open Go.RowKit

/-- the table of the forms of statements -/
def formCells : List Value := [.int .i64 1, .int .i64 1, .bool true, .bool false, .bool false, .int .i64 1, .int .i64 1, .bool true, .bool false, .bool false, .int .i64 2, .int .i64 2, .bool true, .bool false, .bool false, .int .i64 1, .int .i64 1, .bool false, .bool true, .bool true, .int .i64 1, .int .i64 1, .bool false, .bool true, .bool false, .int .i64 1, .int .i64 4611686018427387904, .bool true, .bool false, .bool false, .int .i64 1, .int .i64 1, .bool false, .bool false, .bool false, .int .i64 2, .int .i64 2, .bool false, .bool false, .bool false, .int .i64 2, .int .i64 2, .bool true, .bool false, .bool false, .int .i64 0, .int .i64 0, .bool false, .bool false, .bool false]
/-- what the walks of package syntax ask of memory -/
structure SynEnv (w : World) : Prop where
  lex : LexEnv w
  forms : ∀ (j : Nat) (u : Value), formCells[j]? = some u → w.cell? ⟨0, j, none⟩ = some u
theorem SynEnv.keep {w w' : World} (h : SynEnv w) (hb : Below w.heap.size w w') : SynEnv w' := ⟨h.lex.keep hb, fun j u hu => cell_keep' hb (h.forms j u hu)⟩
theorem validEs_fun (l : List Tr.E) : l.all Tr.validE = Tr.validEs l := (Tr.validEs_all l).symm
theorem validSs_fun (l : List Tr.S) : l.all Tr.validS = Tr.validSs l := (Tr.validSs_all l).symm
theorem holdsE {w : World} (h : LexEnv w) (l : List Tr.E) : HoldsE w Tr.validE l := fun W _ x a hb _ hr => validExpr_any _ x a W (Nat.le_refl _) (h.keep hb) hr.1 hr.2

end Go.Proofs.YtlgfickhkejdjaaGreatDoor
