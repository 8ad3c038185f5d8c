/-
  What stands in memory while RenameStmts renames one statement.
-/
import Derived.Test.YtdafdbjdnebnfaaGreatDoorCkThin
namespace Go.Proofs.YtdafdbjdnebnfaaGreatDoor
open Go.RowKit Go.Maps

/-- the statement's box lies in block wr.heap.size; what was there at wr is as it was -/
structure R19 (w wr : World) (cs : Array Value) (W : World) : Prop where
  bx : W.heap[wr.heap.size]? = some (.cells cs 75 (0, 0))
  old : ∀ b, b < wr.heap.size → W.heap[b]? = wr.heap[b]?
  below : Below w.heap.size w W
  le : w.heap.size ≤ wr.heap.size
section
variable {w wr W W' : World} {cs : Array Value}
theorem R19.lt (h : R19 w wr cs W) : wr.heap.size < W.heap.size := lt_of_block h.bx
theorem R19.keep (h : R19 w wr cs W) (hb : Below W.heap.size W W') : R19 w wr cs W' :=
  ⟨(hb.block _ h.lt).trans h.bx, fun b hlt => (hb.block b (Nat.lt_trans hlt h.lt)).trans (h.old b hlt), below_next h.below hb, h.le⟩
theorem R19.made (hb : Below w.heap.size w wr) (cs : Array Value) : R19 w wr cs (wr.alloc (.cells cs 75)) :=
  ⟨(MapKept.heap_alloc wr _).1, fun b hlt => (below_box wr _).block b hlt, below_next hb (below_box wr _), hb.size⟩
theorem R19.set (h : R19 w wr cs W) (i : Nat) (u : Value) : R19 w wr (cs.setIfInBounds i u) (W.setCell ⟨wr.heap.size, i, none⟩ u) :=
  ⟨heap_set u h.bx, fun b hlt => (set_other W _ i b u (by omega)).trans (h.old b hlt), h.below.grown (grown_setCell W _ i u) h.below.size (fun q hq => by cases hq; exact h.le), h.le⟩
theorem R19.cell (h : R19 w wr cs W) {j : Nat} {u : Value} (hj : cs[j]? = some u) : W.cell? ⟨wr.heap.size, j, none⟩ = some u := cell_of_blk h.bx hj
theorem R19.free (h : R19 w wr cs W) (q : Nat) : W.frozen? ⟨wr.heap.size, q, none⟩ = false := by have := h.bx; simp [World.frozen?, this]
/-- the row of the statements that are done -/
theorem R19.row {qv : Value} {tr : List ST} (h : R19 w wr cs W) (hr : RowS w qv tr wr) : RowS w qv tr W := by
  refine ⟨⟨hr.own.1, ?_⟩, fun x hx => (hr.sub x hx).move (fun b _ hlt => h.old b hlt) (fun _ hb _ => hb), h.below⟩
  rcases hr.own.2 with h0 | ⟨g, cap, cur, e, hb, hg, hrest⟩
  · exact .inl h0
  · exact .inr ⟨g, cap, cur, e, hb, (h.old g (lt_of_block hg)).trans hg, hrest⟩
/-- parts of the new statement, in blocks behind the box -/
theorem SlEf.set19 {v : Value} {l : List Tr.E} (h : SlEf W (fun b => wr.heap.size < b) v l) (i : Nat) (u : Value) : SlEf (W.setCell ⟨wr.heap.size, i, none⟩ u) (fun b => wr.heap.size < b) v l :=
  h.move (fun b hb _ => set_other W _ i b u (by omega)) (fun _ hb _ => hb)
theorem SlSf.set19 {v : Value} {l : List Tr.S} (h : SlSf W (fun b => wr.heap.size < b) v l) (i : Nat) (u : Value) : SlSf (W.setCell ⟨wr.heap.size, i, none⟩ u) (fun b => wr.heap.size < b) v l :=
  h.move (fun b hb _ => set_other W _ i b u (by omega)) (fun _ hb _ => hb)
theorem SlEf.next {F : Nat → Prop} {v : Value} {l : List Tr.E} (h : SlEf W F v l) (hb : Below W.heap.size W W') : SlEf W' F v l := h.move (fun b _ hlt => hb.block b hlt) (fun _ hb _ => hb)
theorem SlSf.next {F : Nat → Prop} {v : Value} {l : List Tr.S} (h : SlSf W F v l) (hb : Below W.heap.size W W') : SlSf W' F v l := h.move (fun b _ hlt => hb.block b hlt) (fun _ hb _ => hb)
end
end Go.Proofs.YtdafdbjdnebnfaaGreatDoor
