/-
  The reference lexer's skip, walked: it is Lex.skip on what is left.
-/
import Derived.Test.YthbipapihdppmaaDoorLexRefA
namespace Go.Proofs.YthbipapihdppmaaDoor
open Go.RowKit

/-- what is left of s from place k on -/
def rest (s : ByteArray) (k : Nat) : List UInt8 := s.data.toList.drop k

theorem rest_len (s : ByteArray) (k : Nat) : (rest s k).length = s.size - k := by unfold rest; rw [List.length_drop, ← Lib.size_eq]
theorem rest_cons (s : ByteArray) (k : Nat) (h : k < s.size) : rest s k = s[k] :: rest s (k + 1) := by
  unfold rest
  rw [List.drop_eq_getElem_cons (by rw [← Lib.size_eq]; exact h)]
  rfl
theorem rest_nil (s : ByteArray) (k : Nat) (h : s.size ≤ k) : rest s k = [] := by
  unfold rest; exact List.drop_eq_nil_iff.2 (by rw [← Lib.size_eq]; exact h)

theorem u8_eq (c : UInt8) (n : Nat) : ((c.toNat : Int) == (n : Int)) = decide (c.toNat = n) := by
  rw [Bool.eq_iff_iff, beq_iff_eq, decide_eq_true_eq]; omega

theorem space_iff (c : UInt8) : Lex.space c = true ↔ (c.toNat = 32 ∨ c.toNat = 9 ∨ c.toNat = 10 ∨ c.toNat = 13) := by unfold Lex.space; exact decide_eq_true_iff
theorem skip_t (c : UInt8) (r : List UInt8) : Lex.skip true (c :: r) = if c.toNat = 10 then Lex.skip false r else Lex.skip true r := rfl
theorem skip_f (c : UInt8) (r : List UInt8) : Lex.skip false (c :: r) = if Lex.space c then Lex.skip false r else if c.toNat = 35 then Lex.skip true r else c :: r := rfl
theorem skip_space (s : ByteArray) (k : Nat) (h : k < s.size) (a : s[k].toNat = 32 ∨ s[k].toNat = 9 ∨ s[k].toNat = 10 ∨ s[k].toNat = 13) :
    Lex.skip false (rest s k) = Lex.skip false (rest s (k + 1)) := by
  rw [rest_cons s k h, skip_f, if_pos ((space_iff _).2 a)]
theorem skip_hash (s : ByteArray) (k : Nat) (h : k < s.size) (a : s[k].toNat = 35) :
    Lex.skip false (rest s k) = Lex.skip true (rest s k) := by
  rw [rest_cons s k h, skip_f, if_neg (fun e => by rw [space_iff] at e; omega), if_pos a, skip_t, if_neg (by omega)]
theorem skip_other (s : ByteArray) (k : Nat) (h : k < s.size) (a : ¬ (s[k].toNat = 32 ∨ s[k].toNat = 9 ∨ s[k].toNat = 10 ∨ s[k].toNat = 13)) (b : ¬ s[k].toNat = 35) :
    Lex.skip false (rest s k) = rest s k := by
  rw [rest_cons s k h, skip_f, if_neg (fun e => a ((space_iff _).1 e)), if_neg b]
theorem skip_in (s : ByteArray) (k : Nat) (h : k < s.size) (a : ¬ s[k].toNat = 10) :
    Lex.skip true (rest s k) = Lex.skip true (rest s (k + 1)) := by
  rw [rest_cons s k h, skip_t, if_neg a]
theorem skip_out (s : ByteArray) (k : Nat) (h : k < s.size) (a : s[k].toNat = 10) :
    Lex.skip true (rest s k) = Lex.skip false (rest s k) := by
  rw [rest_cons s k h, skip_t, if_pos a, skip_f, if_pos ((space_iff _).2 (.inr (.inr (.inl a))))]
theorem beq_no (c : UInt8) (m : Int) (h : ¬ (c.toNat : Int) = m) : ((c.toNat : Int) == m) = false := by rw [beq_eq_false_iff_ne]; exact h
theorem beq_yes (c : UInt8) (m : Int) (h : (c.toNat : Int) = m) : ((c.toNat : Int) == m) = true := by rw [beq_iff_eq]; exact h
theorem skip_end (s : ByteArray) (k : Nat) (h : s.size ≤ k) (b : Bool) : Lex.skip b (rest s k) = [] := by
  rw [rest_nil s k h]; cases b <;> rfl
theorem skip_end2 (s : ByteArray) (k : Nat) (h : s.size ≤ k) : Lex.skip true (rest s k) = Lex.skip false (rest s k) := by
  rw [skip_end s k h, skip_end s k h]
theorem ret_i64 {a b : Int} (h : a = b) : Ending.returned (.int .i64 a) = .returned (.int .i64 b) := by rw [h]

set_option maxHeartbeats 1000000 in
theorem skip_ref (s : ByteArray) (at0 : Int) (w : World) (hs : s.size ≤ 9223372036854775806) (h0 : 0 ≤ at0) (h1 : at0 ≤ s.size) :
    Calls Tryd.prog 24 #[.string s, .int .i64 at0] w fun e w' => e = .returned (.int .i64 (s.size - (Lex.skip false (rest s at0.toNat)).length : Nat)) ∧ w = w' := by
  obtain ⟨n0, rfl⟩ := Int.eq_ofNat_of_zero_le h0
  rw [Int.toNat_natCast]
  have h1' : n0 ≤ s.size := by omega
  clear h0 h1
  go_enter Tryd.func24, Tryd.ntmps24
  go_wp2
  go_loop [1] (fun i => ∃ k : Nat, k ≤ s.size ∧ i = .int .i64 k ∧ Lex.skip false (rest s n0) = Lex.skip false (rest s k)) (fun i => s.size - (intOf i).toNat)
  case atStart => exact ⟨n0, h1', rfl, rfl⟩
  case round =>
    obtain ⟨k, hk, rfl, hr⟩ := hrel
    have HR := Lib.hid hr
    clear hr
    by_cases hlt : k < s.size
    · by_cases a : s[k].toNat = 32 ∨ s[k].toNat = 9 ∨ s[k].toNat = 10 ∨ s[k].toNat = 13
      · have HA := Lib.hid a
        rcases a with a | a | a | a
        all_goals
          go_wp2
          go_round
          case rel => exact ⟨k + 1, by omega, by go_num, by rw [HR.out]; exact skip_space s k hlt HA.out⟩
          case measure => simp [intOf]; omega
      · have HA := Lib.hid a
        have a1 := beq_no s[k] 32 (fun e => a (by omega))
        have a2 := beq_no s[k] 9 (fun e => a (by omega))
        have a3 := beq_no s[k] 10 (fun e => a (by omega))
        have a4 := beq_no s[k] 13 (fun e => a (by omega))
        clear a
        by_cases b : s[k].toNat = 35
        · have HB := Lib.hid b
          have b1 := beq_yes s[k] 35 (by omega)
          clear b
          go_wp2
          go_loop [1] (fun i => ∃ j : Nat, k ≤ j ∧ j ≤ s.size ∧ i = .int .i64 j ∧ Lex.skip true (rest s k) = Lex.skip true (rest s j)) (fun i => s.size - (intOf i).toNat)
          case atStart => exact ⟨k, Nat.le_refl _, hk, rfl, rfl⟩
          case round =>
            obtain ⟨j, hkj, hj, rfl, hq⟩ := hrel
            have HQ := Lib.hid hq
            clear hq
            by_cases hlt2 : j < s.size
            · by_cases c : s[j].toNat = 10
              · have HC := Lib.hid c
                have hne : j ≠ k := by intro e; subst e; have := HB.out; omega
                go_wp2
                go_round
                case rel => exact ⟨j, hj, rfl, by rw [HR.out, skip_hash s k hlt HB.out, HQ.out, skip_out s j hlt2 HC.out]⟩
                case measure => simp [intOf]; omega
              · have HC := Lib.hid c
                go_wp2
                go_round
                case rel => exact ⟨j + 1, by omega, by omega, by go_num, by rw [HQ.out, skip_in s j hlt2 HC.out]⟩
                case measure => simp [intOf]; omega
            · go_wp2
              go_round
              case rel => exact ⟨j, hj, rfl, by rw [HR.out, skip_hash s k hlt HB.out, HQ.out, skip_end2 s j (by omega)]⟩
              case measure => simp [intOf]; omega
        · have HB := Lib.hid b
          have b1 := beq_no s[k] 35 (by omega)
          clear b
          go_wp2
          go_ret
          exact ⟨ret_i64 (by rw [HR.out, skip_other s k hlt HA.out HB.out, rest_len]; omega), rfl⟩
    · go_wp2
      go_ret
      exact ⟨ret_i64 (by rw [HR.out, skip_end s k (by omega)]; simp; omega), rfl⟩
end Go.Proofs.YthbipapihdppmaaDoor
