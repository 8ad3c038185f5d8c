/-
  The law's awake, walked: the examples of the chapter hold.
-/
import Derived.Test.YthbipapihdppmaaDoorLexFmt
namespace Go.Proofs.YthbipapihdppmaaDoor
open Go.RowKit

def ex1 : List UInt8 := [108, 101, 116, 32, 120, 32, 61, 32, 116, 104, 105, 115, 46, 102, 50, 59, 32, 35, 32, 110, 111, 116, 101]
def ex2 : List UInt8 := [97, 32, 60, 32, 48, 48, 55]
def exToks : List Lex.Tok := [⟨4, [108, 101, 116], 0, 0⟩, ⟨2, [120], 0, 4⟩, ⟨5, [61], 0, 6⟩, ⟨4, [116, 104, 105, 115], 0, 8⟩, ⟨5, [46], 0, 12⟩, ⟨2, [102, 50], 0, 13⟩, ⟨5, [59], 0, 15⟩, ⟨0, [], 0, 23⟩]
theorem ex1_scan : Lex.scan ex1 = .toks exToks := by decide +kernel
theorem ex2_scan : Lex.scan ex2 = .bad 4 3 := by decide +kernel
theorem ex_fmt : fmtL exToks = [108, 101, 116, 32, 120, 32, 61, 32, 116, 104, 105, 115, 32, 46, 32, 102, 50, 32, 59] := by decide +kernel

/-- Scan at a source with tokens -/
theorem scan_toks (s : ByteArray) (ts : List Lex.Tok) (w : World) (hE : LexEnv w) (hs : s.size ≤ 16384) (h : Lex.scan s.data.toList = .toks ts) (hne : ts ≠ []) :
    Calls Tryd.prog 10 #[.string s] w fun e w' => ∃ g cap, e = .returned (.tuple #[.slice (some ⟨g, 0, none⟩) ts.length cap, .int .i64 0, .int .i64 0]) ∧ ToksAt w' g ts ∧ w.heap.size ≤ g ∧ g < w'.heap.size ∧ Below w.heap.size w w' := by
  refine (scan_any s w hE (by omega)).mono ?_
  rintro e w' (⟨a, er, hb, _⟩ | ⟨us, v, ht, rfl, hown, hbel⟩)
  · rw [h] at hb; cases hb
  · rw [h] at ht; cases ht
    obtain ⟨g, cap, rfl, _, hta, h1, h2⟩ := toks_of_own hown hne
    exact ⟨g, cap, rfl, hta, h1, h2, hbel⟩
theorem scan_bad (s : ByteArray) (a er : Nat) (w : World) (hE : LexEnv w) (hs : s.size ≤ 9223372036854775800) (h : Lex.scan s.data.toList = .bad a er) :
    Calls Tryd.prog 10 #[.string s] w fun e w' => e = .returned (.tuple #[.slice none 0 0, .int .i64 a, .int .i64 er]) ∧ Below w.heap.size w w' := by
  refine (scan_any s w hE hs).mono ?_
  rintro e w' (⟨a', er', hb, rfl, hbel⟩ | ⟨us, v, ht, _⟩)
  · rw [h] at hb; cases hb; exact ⟨rfl, hbel⟩
  · rw [h] at ht; cases ht

set_option maxRecDepth 100000 in
set_option maxHeartbeats 1000000 in
theorem awake_any (w : World) (hE : LexEnv w) : Calls Tryd.prog 9 #[] w fun e w' => e = .returned (.bool true) ∧ Below w.heap.size w w' := by
  have HE := Lib.hid hE
  clear hE
  go_enter Tryd.func9, Tryd.ntmps9
  go_wp2_with fail
  refine (scan_toks ⟨ex1.toArray⟩ exToks _ HE.out (by decide) ex1_scan (by decide)).mono ?_
  rintro e w1 ⟨g, cap, rfl, hta, hg1, hg2, hb1⟩
  have hs1 := hb1.size
  have HTA := Lib.hid hta
  clear hta
  go_wp2_with fail
  refine (scan_bad ⟨ex2.toArray⟩ 4 3 _ (HE.out.keep hb1) (by decide) ex2_scan).mono ?_
  rintro e w2 ⟨rfl, hb2⟩
  have hs2 := hb2.size
  have HTA2 := Lib.hid (HTA.out.keep hb2 hg2)
  have c1 := (HTA2.out 7 _ rfl).1
  have c2 := (HTA2.out 7 _ rfl).2.2.2
  have c3 := (HTA2.out 5 _ rfl).2.1
  simp only at c1 c2 c3
  go_wp2_with fail
  have hF := format_any g cap exToks w2 (Nat.lt_of_lt_of_le hg2 hs2) HTA2.out (by decide) (by rw [ex_fmt]; decide)
  rw [ex_fmt] at hF
  refine hF.mono ?_
  rintro e w3 ⟨rfl, hb3⟩
  go_wp2_with fail
  go_ret
  exact ⟨rfl, (hb1.trans (hb2.mono hs1)).trans (hb3.mono (Nat.le_trans hs1 hs2))⟩
end Go.Proofs.YthbipapihdppmaaDoor
