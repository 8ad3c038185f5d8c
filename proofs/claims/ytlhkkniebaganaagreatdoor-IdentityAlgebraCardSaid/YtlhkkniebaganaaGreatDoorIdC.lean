/-
  Identities: the issuer's functions, walked.
-/
import Derived.Test.YtlhkkniebaganaaGreatDoorIdB
import Derived.StillTailTactics
namespace Go.Proofs.YtlhkkniebaganaaGreatDoor
open Go.RowKit

/-- block b is an issuer of machine m whose last serial is l -/
def IssAt (w : World) (b : Nat) (m l : Int) : Prop := w.heap[b]? = some (.cells #[.int .i64 m, .int .i64 l] 57)
theorem IssAt.cells {w : World} {b : Nat} {m l : Int} (h : IssAt w b m l) : w.cell? ⟨b, 0, none⟩ = some (.int .i64 m) ∧ w.cell? ⟨b, 1, none⟩ = some (.int .i64 l) ∧ w.frozen? ⟨b, 0, none⟩ = false ∧ w.frozen? ⟨b, 1, none⟩ = false ∧ b < w.heap.size := by
  unfold IssAt at h
  refine ⟨by simp [World.cell?, h], by simp [World.cell?, h], by simp [World.frozen?, h], by simp [World.frozen?, h], (Array.getElem?_eq_some_iff.1 h).1⟩
theorem IssAt.set {w : World} {b : Nat} {m l : Int} (h : IssAt w b m l) (k : Int) : IssAt (w.setCell ⟨b, 1, none⟩ (.int .i64 k)) b m k := by
  unfold IssAt at *
  have hb := (Array.getElem?_eq_some_iff.1 h).1
  have h2 := (Array.getElem?_eq_some_iff.1 h).2
  simp only [World.setCell, Array.getElem?_modify, if_pos]
  rw [h]
  simp
theorem IssAt.keep {w w' : World} {b : Nat} {m l : Int} (h : IssAt w b m l) (hb : Below w.heap.size w w') : IssAt w' b m l := by
  unfold IssAt at *
  rw [hb.block b (Array.getElem?_eq_some_iff.1 h).1]; exact h
theorem grown_setCell (w : World) (b o : Nat) (v : Value) : w.grownBy (w.setCell ⟨b, o, none⟩ v) (some b) :=
  ⟨rfl, rfl, rfl, by simp [World.setCell], fun k _ hk => Below.heap_setCell w _ v k (fun e => hk (by rw [e]))⟩
theorem grown_trans {a b c : World} {r : Option Nat} (h : a.grownBy b r) (k : b.grownBy c r) : a.grownBy c r :=
  ⟨k.os.trans h.os, k.tape.trans h.tape, k.output.trans h.output, Nat.le_trans h.size k.size, fun i hi hr => (k.block i (Nat.lt_of_lt_of_le hi h.size) hr).trans (h.block i hi hr)⟩
theorem grown_drew {a b : World} {r : Option Nat} (h : a.grownBy b r) : a.grownBy b.drew r := ⟨h.os, h.tape, h.output, h.size, h.block⟩
theorem grown_below {a b : World} {r : Option Nat} (h : Below a.heap.size a b) : a.grownBy b r := ⟨h.os, h.tape, h.output, h.size, fun k hk _ => h.block k hk⟩


set_option maxHeartbeats 400000 in
theorem newIssuer_no (m l : Int) (w : World) (h : m < 1 ∨ 8 < m ∨ l < 0 ∨ 1099511627775 < l) : Calls Tryz.prog 17 #[.int .i64 m, .int .i64 l] w fun e w' => e = .returned (.tuple #[.pointer none, .int .i64 1]) ∧ w = w' := by
  by_cases a : m < 1 <;> by_cases b : 8 < m <;> by_cases c : l < 0 <;> by_cases d : 1099511627775 < l <;> try omega
  all_goals
    go_enter Tryz.func17, Tryz.ntmps17
    go_wp2
    go_ret2
    exact ⟨rfl, rfl⟩

set_option maxHeartbeats 400000 in
theorem newIssuer_yes (m l : Int) (w : World) (h1 : 1 ≤ m) (h2 : m ≤ 8) (h3 : 0 ≤ l) (h4 : l ≤ 1099511627775) : Calls Tryz.prog 17 #[.int .i64 m, .int .i64 l] w fun e w' => e = .returned (.tuple #[.pointer (some ⟨w.heap.size, 0, none⟩), .int .i64 0]) ∧ IssAt w' w.heap.size m l ∧ w.heap.size < w'.heap.size ∧ Below w.heap.size w w' := by
  go_enter Tryz.func17, Tryz.ntmps17
  go_wp2
  go_ret2
  exact ⟨rfl, by unfold IssAt World.alloc; simp, by simp, (Below.refl _ _).alloc (Nat.le_refl _) _⟩

set_option maxHeartbeats 400000 in
theorem next_no (b : Nat) (m l : Int) (w : World) (h : IssAt w b m l) (hl : 1099511627775 ≤ l) : Calls Tryz.prog 18 #[.pointer (some ⟨b, 0, none⟩)] w fun e w' => e = .returned (.tuple #[idV (0, 0), .int .i64 8]) ∧ Below w.heap.size w w' := by
  obtain ⟨h0, h1, h2, h3, hb⟩ := h.cells
  clear h
  unfold idV
  go_enter Tryz.func18, Tryz.ntmps18
  go_wp2
  refine bodyPost_ret (v := .tuple #[.agg #[.int .i64 0, .int .i64 0], .int .i64 8]) (by simp [results, Tryz.results18, go_sem]) rfl ⟨rfl, ?_⟩
  exact (Below.refl _ _).alloc (Nat.le_refl _) _
set_option maxHeartbeats 400000 in
theorem next_yes (b : Nat) (m l : Int) (w : World) (h : IssAt w b m l) (h0l : 0 ≤ l) (hl : l < 1099511627775) : Calls Tryz.prog 18 #[.pointer (some ⟨b, 0, none⟩)] w fun e w' => e = .returned (.tuple #[idV (m, l + 1), .int .i64 0]) ∧ IssAt w' b m (l + 1) ∧ w.grownBy w' (some b) := by
  obtain ⟨h0, h1, h2, h3, hb⟩ := h.cells
  have HI := Lib.hid h
  clear h
  unfold idV
  go_enter Tryz.func18, Tryz.ntmps18
  go_wp2
  go_region
  go_wp2
  refine bodyPost_ret (v := .tuple #[.agg #[.int .i64 m, .int .i64 (l + 1)], .int .i64 0]) (by simp [results, Tryz.results18, go_sem]) rfl ⟨rfl, ?_, ?_⟩
  · exact (HI.out.set (l + 1)).keep ((Below.refl _ _).alloc (Nat.le_refl _) _).drew
  · exact grown_drew (grown_trans (grown_setCell w b 1 _) (World.grownBy_alloc _ _ _))

end Go.Proofs.YtlhkkniebaganaaGreatDoor
