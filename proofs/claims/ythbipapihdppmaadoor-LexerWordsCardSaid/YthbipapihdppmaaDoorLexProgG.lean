/-
  The program's lexer: scanners, walked: the table tells by a token's first byte which function reads it.
-/
import Derived.Test.YthbipapihdppmaaDoorLexProgF
namespace Go.Proofs.YthbipapihdppmaaDoor
open Go.RowKit Go.Maps

def symStarts : List UInt8 := [33, 37, 40, 41, 42, 43, 44, 45, 46, 47, 59, 60, 61, 62, 123, 125]
/-- the function that reads a token with this first byte -/
def tableF (c : UInt8) : Nat := if Lex.letter c then 31 else if Lex.digit c then 30 else if symStarts.contains c then 32 else 0

theorem tableF_eq (c : UInt8) : putF ⟨#[33, 37, 40, 41, 42, 43, 44, 45, 46, 47, 59, 60, 61, 62, 123, 125]⟩ 32 16 (putF ⟨#[97, 98, 99, 100, 101, 102, 103, 104, 105, 106, 107, 108, 109, 110, 111, 112, 113, 114, 115, 116, 117, 118, 119, 120, 121, 122, 65, 66, 67, 68, 69, 70, 71, 72, 73, 74, 75, 76, 77, 78, 79, 80, 81, 82, 83, 84, 85, 86, 87, 88, 89, 90]⟩ 31 52 (putF ⟨#[48, 49, 50, 51, 52, 53, 54, 55, 56, 57]⟩ 30 10 (fun _ => 0))) c = tableF c := by
  revert c; apply all_bytes; decide +kernel

theorem table_made (w : World) : TableAt (w.alloc (.map #[] 0)) w.heap.size 0 (fun _ => 0) :=
  ⟨.map [], isMap_empty, World.ownsMap_made w _ _ _, fun _ => rfl⟩
theorem TableAt.alloc {w : World} {M n : Nat} {f : UInt8 → Nat} (h : TableAt w M n f) (o : Obj) : TableAt (w.alloc o) M n f := by
  obtain ⟨D, h1, h2, h3⟩ := h; exact ⟨D, h1, h2.alloc o, h3⟩
theorem TableAt.keep {w w' : World} {M n : Nat} {f : UInt8 → Nat} (h : TableAt w M n f) (hb : Below w.heap.size w w') : TableAt w' M n f := by
  obtain ⟨D, h1, h2, h3⟩ := h; exact ⟨D, h1, h2.kept (row := none) (below_grown hb) (by simp), h3⟩

set_option maxRecDepth 100000 in
set_option maxHeartbeats 1000000 in
theorem scanners_any (w : World) :
    Calls Tryd.prog 22 #[] w fun e w' => e = .returned (.map (some w.heap.size)) ∧ TableAt w' w.heap.size 78 tableF ∧ Below w.heap.size w w' := by
  have hmm := @run_makeMap Tryd.prog
  go_enter Tryd.func22, Tryd.ntmps22
  go_wp2_with fail
  refine (set_any _ 30 _ w.heap.size 0 (fun _ => 0) _ (by decide) (by decide) (by decide) (by simp) ((table_made w).alloc _)).mono ?_
  rintro e w1 ⟨rfl, hT1, hg1⟩
  have hc1 := hg1.cell (a := ⟨w.heap.size + 1, 0, none⟩) (v := .map (some w.heap.size)) (by simp) (by simp)
  have HT1 := Lib.hid hT1
  clear hT1
  go_wp2_with fail
  refine (set_any _ 31 _ w.heap.size _ _ _ (by decide) (by decide) (by decide) hc1 HT1.out).mono ?_
  rintro e w2 ⟨rfl, hT2, hg2⟩
  have hc2 := hg2.cell (a := ⟨w.heap.size + 1, 0, none⟩) (v := .map (some w.heap.size)) hc1 (by simp)
  have HT2 := Lib.hid hT2
  clear hT2
  go_wp2_with fail
  refine (set_any _ 32 _ w.heap.size _ _ _ (by decide) (by decide) (by decide) hc2 HT2.out).mono ?_
  rintro e w3 ⟨rfl, hT3, hg3⟩
  have hc3 := hg3.cell (a := ⟨w.heap.size + 1, 0, none⟩) (v := .map (some w.heap.size)) hc2 (by simp)
  have HT3 := Lib.hid hT3
  clear hT3
  go_wp2_with fail
  go_ret
  refine ⟨rfl, ?_, ?_⟩
  · obtain ⟨D, d1, d2, d3⟩ := HT3.out
    exact ⟨D, d1, d2, fun c => by rw [d3 c]; exact congrArg (fun n : Nat => DataW.lit (.int .i64 n)) (tableF_eq c)⟩
  · exact (((((Below.refl _ _).alloc (Nat.le_refl _) _).alloc (by simp) _).grown hg1 (by simp <;> omega) (fun q hq => by cases hq; exact Nat.le_refl _)).grown hg2 (by have := hg1.size; simp at this; omega) (fun q hq => by cases hq; exact Nat.le_refl _)).grown hg3 (by have := hg1.size; have := hg2.size; simp at *; omega) (fun q hq => by cases hq; exact Nat.le_refl _)
end Go.Proofs.YthbipapihdppmaaDoor
