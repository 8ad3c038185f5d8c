/-
  An argument's cells, out of a list that is read.
-/
import Derived.Test.YtlgfickhkejdjaaGreatDoorMTrA
namespace Go.Proofs.YtlgfickhkejdjaaGreatDoor
open Go.RowKit

theorem argAt {w : World} {p : Option Addr} {N c : Nat} {ls : List Tr.E} (hS : SlE w (.slice p N c) ls) {j : Nat} {x : Tr.E} (hx : ls[j]? = some x) :
    ∃ b o pa AN ca, p = some ⟨b, o, none⟩ ∧ x.args.length = AN ∧ CellsE w b (o + j * 6) x (.slice pa AN ca) ∧ SlE w (.slice pa AN ca) x.args := by
  obtain ⟨b, o, a, h1, _, hc, _, hsl⟩ := hS.get hx
  obtain ⟨pa, ca, rfl, _⟩ := hsl.form
  exact ⟨b, o, pa, _, ca, h1, rfl, hc, hsl⟩
end Go.Proofs.YtlgfickhkejdjaaGreatDoor
