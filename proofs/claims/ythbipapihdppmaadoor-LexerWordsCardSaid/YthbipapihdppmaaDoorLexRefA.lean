/-
  The reference lexer's small functions, walked: letter, digit, Keywords, Symbols, In.
-/
import Derived.Test.YthbipapihdppmaaDoorRows
import Derived.Test.YthbipapihdppmaaDoorLexSpec
import Derived.WalkKit
import Derived.WalkSpells
import Derived.WalkLawsBesides
import Derived.Lib.Hide
import Derived.Lib.Strings
namespace Go.Proofs.YthbipapihdppmaaDoor
open Go.RowKit

/-- a byte as the program has it -/
theorem letter_of (c : UInt8) : Lex.letter c = decide (97 ≤ (c.toNat : Int) ∧ (c.toNat : Int) ≤ 122 ∨ 65 ≤ (c.toNat : Int) ∧ (c.toNat : Int) ≤ 90) := by
  unfold Lex.letter; congr 1; simp only [eq_iff_iff]; omega
theorem digit_of (c : UInt8) : Lex.digit c = decide (48 ≤ (c.toNat : Int) ∧ (c.toNat : Int) ≤ 57) := by
  unfold Lex.digit; congr 1; simp only [eq_iff_iff]; omega

set_option maxHeartbeats 400000 in
theorem letter_int (c : Int) (w : World) (h0 : 0 ≤ c) (h1 : c ≤ 255) :
    Calls Tryd.prog 36 #[.int .u8 c] w fun e w' => e = .returned (.bool (decide (97 ≤ c ∧ c ≤ 122 ∨ 65 ≤ c ∧ c ≤ 90))) ∧ w = w' := by
  by_cases a : 97 ≤ c <;> by_cases b : c ≤ 122 <;> by_cases d : 65 ≤ c <;> by_cases e : c ≤ 90 <;> try omega
  all_goals
    go_enter Tryd.func36, Tryd.ntmps36
    go_wp2
    go_ret
    exact ⟨by simp [a, b, d, e]; try omega, rfl⟩

set_option maxHeartbeats 400000 in
theorem digit_int (c : Int) (w : World) (h0 : 0 ≤ c) (h1 : c ≤ 255) :
    Calls Tryd.prog 37 #[.int .u8 c] w fun e w' => e = .returned (.bool (decide (48 ≤ c ∧ c ≤ 57))) ∧ w = w' := by
  by_cases a : 48 ≤ c <;> by_cases b : c ≤ 57 <;> try omega
  all_goals
    go_enter Tryd.func37, Tryd.ntmps37
    go_wp2
    go_ret
    exact ⟨by simp [a, b], rfl⟩

theorem letter_any (c : UInt8) (w : World) :
    Calls Tryd.prog 36 #[.int .u8 c.toNat] w fun e w' => e = .returned (.bool (Lex.letter c)) ∧ w = w' := by
  rw [letter_of]; exact letter_int _ w (by omega) (by have := c.toNat_lt; omega)
theorem digit_any (c : UInt8) (w : World) :
    Calls Tryd.prog 37 #[.int .u8 c.toNat] w fun e w' => e = .returned (.bool (Lex.digit c)) ∧ w = w' := by
  rw [digit_of]; exact digit_int _ w (by omega) (by have := c.toNat_lt; omega)

theorem bytes_beq (a b : ByteArray) : (a.toList == b.toList) = decide (a = b) := by
  rw [Bool.eq_iff_iff, beq_iff_eq, decide_eq_true_eq]
  constructor
  · intro h
    have h2 : a.data.toList = b.data.toList := by rw [← Lib.toList_data, ← Lib.toList_data]; exact h
    cases a; cases b; simp only at h2; simp_all
  · intro h; rw [h]

/-- In: is x one of the n strings? -/
def inB (zs : Nat → ByteArray) (x : ByteArray) (n : Nat) : Bool := (List.range n).any fun j => decide (zs j = x)
theorem inB_yes {zs : Nat → ByteArray} {x : ByteArray} {n k : Nat} (hk : k < n) (h : zs k = x) : inB zs x n = true := by
  unfold inB; rw [List.any_eq_true]; exact ⟨k, by simpa using hk, by simpa using h⟩
theorem inB_no {zs : Nat → ByteArray} {x : ByteArray} {n : Nat} (h : ∀ j, j < n → zs j ≠ x) : inB zs x n = false := by
  unfold inB; rw [List.any_eq_false]; intro j hj; simpa using h j (by simpa using hj)

theorem ret_bool {a b : Bool} (h : a = b) : Ending.returned (.bool a) = .returned (.bool b) := by rw [h]

set_option maxHeartbeats 400000 in
theorem in_any (b off n c : Nat) (zs : Nat → ByteArray) (x : ByteArray) (w : World) (hn : n ≤ 9223372036854775807) (hc : ∀ j, j < n → w.cell? ⟨b, off + j, none⟩ = some (.string (zs j))) :
    Calls Tryd.prog 18 #[.slice (some ⟨b, off, none⟩) n c, .string x] w fun e w' => e = .returned (.bool (inB zs x n)) ∧ w = w' := by
  have H := Lib.hid hc
  clear hc
  go_enter Tryd.func18, Tryd.ntmps18
  go_wp2
  go_loop [5] (fun i => ∃ k : Nat, k ≤ n ∧ i = .int .i64 k ∧ ∀ j, j < k → zs j ≠ x) (fun i => n - (intOf i).toNat)
  case atStart => exact ⟨0, Nat.zero_le _, rfl, fun j hj => by omega⟩
  case round =>
    obtain ⟨k, hk, rfl, hno⟩ := hrel
    have HN := Lib.hid hno
    clear hno
    by_cases hlt : k < n
    · have hcell := H.out k hlt
      by_cases he : zs k = x
      · have hf := Lib.hid he
        have he' : ((zs k).toList == x.toList) = true := by rw [bytes_beq]; simpa using he
        clear he
        go_wp2
        go_ret
        exact ⟨ret_bool (inB_yes hlt hf.out).symm, rfl⟩
      · have hf := Lib.hid he
        have he' : ((zs k).toList == x.toList) = false := by rw [bytes_beq]; simpa using he
        clear he
        go_wp2
        go_round
        case rel =>
          refine ⟨k + 1, by omega, by go_num, fun j hj => ?_⟩
          by_cases e : j = k
          · rw [e]; exact hf.out
          · exact HN.out j (by omega)
        case measure => simp [intOf]; omega
    · go_wp2
      go_ret
      exact ⟨ret_bool (inB_no fun j hj => HN.out j (by omega)).symm, rfl⟩

set_option maxHeartbeats 400000 in
theorem keywords_any (w : World) :
    Calls Tryd.prog 19 #[] w fun e w' => e = .returned (.slice (some ⟨w.heap.size, 0, none⟩) 24 24) ∧ w' = w.alloc (.cells ((Lex.keywords.map fun l => Value.string ⟨l.toArray⟩).toArray) 9) := by
  go_enter Tryd.func19, Tryd.ntmps19
  go_wp2
  go_ret
  exact ⟨rfl, rfl⟩

set_option maxHeartbeats 400000 in
theorem symbols_any (w : World) :
    Calls Tryd.prog 20 #[] w fun e w' => e = .returned (.slice (some ⟨w.heap.size, 0, none⟩) 19 19) ∧ w' = w.alloc (.cells ((Lex.symbols.map fun l => Value.string ⟨l.toArray⟩).toArray) 9) := by
  go_enter Tryd.func20, Tryd.ntmps20
  go_wp2
  go_ret
  exact ⟨rfl, rfl⟩
end Go.Proofs.YthbipapihdppmaaDoor
