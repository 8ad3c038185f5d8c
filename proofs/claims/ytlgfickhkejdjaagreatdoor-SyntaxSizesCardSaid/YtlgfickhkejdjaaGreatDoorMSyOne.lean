/-
  Rows of one element that a walk lays in blocks of their own: a statement, a method, a class; names.
-/
import Derived.Test.YtlgfickhkejdjaaGreatDoorMSyOwn
import Derived.Test.YtlgfickhkejdjaaGreatDoorMSySpoilB
namespace Go.Proofs.YtlgfickhkejdjaaGreatDoor
open Go.RowKit Go.Maps

theorem blk1 {w : World} {g : Nat} {cs : Array Value} {t : TypeId} (h : w.heap[g]? = some (.cells cs t (0, 0))) (q : Nat) (u : Value) (hu : cs[q]? = some u) : w.cell? ⟨g, 0 + q, none⟩ = some u := by
  rw [Nat.zero_add]; exact cell_of_blkP h hu
theorem slE_blk1 {w : World} {g : Nat} {e : Tr.E} {a : Value} {t : TypeId} (h : w.heap[g]? = some (.cells #[.int .i64 e.kind, .int .i64 e.op, .int .i64 e.int, .string e.name, .bool e.at_, a] t (0, 0))) (hb : BdE e) (hs : SlE w a e.args) : SlE w (.slice (some ⟨g, 0, none⟩) 1 1) [e] :=
  slE_blk h [(e, a)] (by simp) rfl (fun z hz => by
    obtain rfl := List.mem_singleton.1 hz
    exact ⟨hb, hs⟩)
theorem slS_blk1 {w : World} {g : Nat} {s : Tr.S} {x y z : Value} {t : TypeId} (h : w.heap[g]? = some (.cells #[.int .i64 s.kind, .string s.name, x, y, z] t (0, 0))) (hb : BdS s) (hx : SlE w x s.exprs) (hy : SlS w y s.body) (hz : SlS w z s.els) : SlS w (.slice (some ⟨g, 0, none⟩) 1 1) [s] := by
  refine .row g 0 1 [s] (fun _ => x) (fun _ => y) (fun _ => z) (Nat.le_refl _) (by decide) (fun j s' hj => ?_) (fun j s' hj => ?_) (fun j s' hj => ?_) (fun j s' hj => ?_)
  all_goals
    obtain rfl : j = 0 := by have := (List.getElem?_eq_some_iff.1 hj).1; simpa using this
    cases hj
  · exact ⟨⟨blk1 h 0 _ rfl, blk1 h 1 _ rfl, blk1 h 2 _ rfl, blk1 h 3 _ rfl, blk1 h 4 _ rfl⟩, hb⟩
  · exact hx
  · exact hy
  · exact hz
theorem slM_blk1 {w : World} {g : Nat} {m : Tr.M} {x y : Value} {t : TypeId} (h : w.heap[g]? = some (.cells #[.string m.name, x, y] t (0, 0))) (hn : m.name.size ≤ maxLen) (hx : SlStr w x m.params) (hy : SlS w y m.body) : SlM w (.slice (some ⟨g, 0, none⟩) 1 1) [m] := by
  refine ⟨_, 1, rfl, show 1 ≤ maxLen by decide, fun _ => ⟨Nat.le_refl _, by decide⟩, fun j m' hj => ?_⟩
  obtain rfl : j = 0 := by have := (List.getElem?_eq_some_iff.1 hj).1; simpa using this
  cases hj
  exact ⟨hn, g, 0, x, y, rfl, lt_of_block h, ⟨blk1 h 0 _ rfl, blk1 h 1 _ rfl, blk1 h 2 _ rfl⟩, hx, hy⟩
theorem slC_blk1 {w : World} {g : Nat} {c : Tr.C} {x y : Value} {t : TypeId} (h : w.heap[g]? = some (.cells #[.string c.name, .bool c.actor, x, y] t (0, 0))) (hn : c.name.size ≤ maxLen) (hx : SlStr w x c.fields) (hy : SlM w y c.methods) : SlC w (.slice (some ⟨g, 0, none⟩) 1 1) [c] := by
  refine ⟨_, 1, rfl, show 1 ≤ maxLen by decide, fun _ => ⟨Nat.le_refl _, by decide⟩, fun j m' hj => ?_⟩
  obtain rfl : j = 0 := by have := (List.getElem?_eq_some_iff.1 hj).1; simpa using this
  cases hj
  exact ⟨hn, g, 0, x, y, rfl, lt_of_block h, ⟨blk1 h 0 _ rfl, blk1 h 1 _ rfl, blk1 h 2 _ rfl, blk1 h 3 _ rfl⟩, hx, hy⟩
theorem slStr_nil (w : World) (p : Option Addr) (c : Nat) : SlStr w (.slice p 0 c) [] := ⟨p, c, rfl, Nat.zero_le _, fun h => absurd rfl h, fun j n hj => by simp at hj⟩
theorem slStr_blk {w : World} {g : Nat} {l : List ByteArray} {t : TypeId} {cs : Array Value} (h : w.heap[g]? = some (.cells cs t (0, 0))) (hcs : cs = (l.map Value.string).toArray) (hl : l.length ≤ 1000) (hs : ∀ s ∈ l, s.size ≤ maxLen) : SlStr w (.slice (some ⟨g, 0, none⟩) l.length l.length) l := by
  subst hcs
  refine ⟨_, _, rfl, by unfold maxLen; omega, fun _ => ⟨Nat.le_refl _, by unfold maxLen; omega⟩, fun j n hj => ⟨hs n (List.mem_of_getElem? hj), g, 0, rfl, lt_of_block h, ?_⟩⟩
  rw [Nat.zero_add]
  refine cell_of_blkP h ?_
  rw [List.getElem?_toArray, List.getElem?_map, hj]
  rfl
/-! ### the program that prints an expression -/
def prW (w : World) (N : Nat) (ec : Array Value) : World := ((((w.alloc (.cells ec 24)).alloc (.cells #[.int .i64 6, .string ⟨#[]⟩, .slice (some ⟨N, 0, none⟩) 1 1, .slice none 0 0, .slice none 0 0] 46)).alloc (.cells #[.string ⟨#[109]⟩, .slice none 0 0, .slice (some ⟨N + 1, 0, none⟩) 1 1] 49)).alloc (.cells #[.string ⟨#[65]⟩, .bool true, .slice none 0 0, .slice (some ⟨N + 1 + 1, 0, none⟩) 1 1] 52)).alloc (.cells #[.slice (some ⟨N + 1 + 1 + 1, 0, none⟩) 1 1] 32)
theorem prW_below (w : World) (N : Nat) (ec : Array Value) : Below w.heap.size w (prW w N ec) := by
  unfold prW
  repeat (first | exact Below.refl _ _ | refine Below.alloc ?_ (by simp <;> omega) _)
theorem prW_blk (w : World) (ec : Array Value) :
    (prW w w.heap.size ec).heap[w.heap.size]? = some (.cells ec 24 (0, 0)) ∧
    (prW w w.heap.size ec).heap[w.heap.size + 1]? = some (.cells #[.int .i64 6, .string ⟨#[]⟩, .slice (some ⟨w.heap.size, 0, none⟩) 1 1, .slice none 0 0, .slice none 0 0] 46 (0, 0)) ∧
    (prW w w.heap.size ec).heap[w.heap.size + 1 + 1]? = some (.cells #[.string ⟨#[109]⟩, .slice none 0 0, .slice (some ⟨w.heap.size + 1, 0, none⟩) 1 1] 49 (0, 0)) ∧
    (prW w w.heap.size ec).heap[w.heap.size + 1 + 1 + 1]? = some (.cells #[.string ⟨#[65]⟩, .bool true, .slice none 0 0, .slice (some ⟨w.heap.size + 1 + 1, 0, none⟩) 1 1] 52 (0, 0)) ∧
    (prW w w.heap.size ec).heap[w.heap.size + 1 + 1 + 1 + 1]? = some (.cells #[.slice (some ⟨w.heap.size + 1 + 1 + 1, 0, none⟩) 1 1] 32 (0, 0)) := by
  unfold prW
  refine ⟨?_, ?_, ?_, ?_, ?_⟩
  all_goals
    repeat (refine (Below.heap_alloc _ _ _ (by simp only [World.size_alloc]; omega)).trans ?_)
    exact new_at (by simp)
theorem prW_prog (w : World) {e : Tr.E} {a : Value} (hb : BdE e) (hs : SlE w a e.args) : SlC (prW w w.heap.size #[.int .i64 e.kind, .int .i64 e.op, .int .i64 e.int, .string e.name, .bool e.at_, a]) (.slice (some ⟨w.heap.size + 1 + 1 + 1, 0, none⟩) 1 1) (Sy.printP e) := by
  have hbl := prW_below w w.heap.size #[.int .i64 e.kind, .int .i64 e.op, .int .i64 e.int, .string e.name, .bool e.at_, a]
  obtain ⟨h0, h1, h2, h3, _⟩ := prW_blk w #[.int .i64 e.kind, .int .i64 e.op, .int .i64 e.int, .string e.name, .bool e.at_, a]
  exact slC_blk1 (c := ⟨⟨#[65]⟩, true, [], [⟨⟨#[109]⟩, [], [.mk 6 ⟨#[]⟩ [e] [] []]⟩]⟩) h3 (show (⟨#[65]⟩ : ByteArray).size ≤ maxLen by decide) (slStr_nil _ _ _) (slM_blk1 (m := ⟨⟨#[109]⟩, [], [.mk 6 ⟨#[]⟩ [e] [] []]⟩) h2 (show (⟨#[109]⟩ : ByteArray).size ≤ maxLen by decide) (slStr_nil _ _ _) (slS_blk1 (s := .mk 6 ⟨#[]⟩ [e] [] []) h1 ⟨show Tr.I64 6 by decide, show (⟨#[]⟩ : ByteArray).size ≤ maxLen by decide⟩ (slE_blk1 h0 hb (hs.keep hbl)) (.nil _ _) (.nil _ _)))
end Go.Proofs.YtlgfickhkejdjaaGreatDoor
