/-
  What strconv.ParseInt makes of digits, in the specification's words.
-/
import Derived.Test.YthbipapihdppmaaDoorLexSpec
import Derived.Lib.ParseIntB
namespace Go.Proofs.YthbipapihdppmaaDoor

theorem value_ge (l : List UInt8) : ∀ acc : Nat, acc ≤ l.foldl (fun n c => 10 * n + (c.toNat - 48)) acc := by
  induction l with
  | nil => intro acc; exact Nat.le_refl _
  | cons c r ih =>
    intro acc
    have := ih (10 * acc + (c.toNat - 48))
    rw [List.foldl_cons]
    omega

theorem parseUintM_digits : ∀ (l : List UInt8) (acc : Nat), (∀ c ∈ l, 48 ≤ c.toNat ∧ c.toNat ≤ 57) → acc ≤ 18446744073709551615 →
    Lib.parseUintM 18446744073709551615 acc l = if l.foldl (fun n c => 10 * n + (c.toNat - 48)) acc ≤ 18446744073709551615 then .ok (l.foldl (fun n c => 10 * n + (c.toNat - 48)) acc) else .range
  | [], acc, _, h => by rw [Lib.parseUintM, List.foldl_nil, if_pos h]
  | c :: r, acc, hd, h => by
    have hc := hd c (by simp)
    have hge := value_ge r (10 * acc + (c.toNat - 48))
    rw [Lib.parseUintM, if_pos hc, List.foldl_cons]
    by_cases h1 : 1844674407370955162 ≤ acc
    · rw [if_pos h1, if_neg (by omega)]
    · rw [if_neg h1]
      by_cases h2 : 18446744073709551615 < acc * 10 + (c.toNat - 48)
      · rw [if_pos h2, if_neg (by omega)]
      · rw [if_neg h2, show acc * 10 + (c.toNat - 48) = 10 * acc + (c.toNat - 48) by omega]
        exact parseUintM_digits r _ (fun x hx => hd x (by simp [hx])) (by omega)

theorem parseInt_digits (l : List UInt8) (hne : l ≠ []) (hd : ∀ c ∈ l, 48 ≤ c.toNat ∧ c.toNat ≤ 57) :
    Lib.parseIntB 64 l = if Lex.value l < 9223372036854775808 then .ok (Lex.value l : Int) else .range := by
  cases l with
  | nil => exact absurd rfl hne
  | cons c r =>
    have hc := hd c (by simp)
    have hsign : ¬ (c.toNat = 43 ∨ c.toNat = 45) := by omega
    unfold Lib.parseIntB
    simp only [if_neg hsign]
    have hU : Lib.parseUintB 64 (c :: r) = if Lex.value (c :: r) ≤ 18446744073709551615 then .ok (Lex.value (c :: r)) else .range := by
      unfold Lib.parseUintB
      rw [if_neg (by simp)]
      exact parseUintM_digits (c :: r) 0 hd (by omega)
    rw [hU]
    have h45 : ¬ c.toNat = 45 := by omega
    by_cases h1 : Lex.value (c :: r) ≤ 18446744073709551615
    · rw [if_pos h1]
      simp only [h45, not_false_eq_true, true_and, false_and, if_false]
      by_cases h2 : Lex.value (c :: r) < 9223372036854775808
      · rw [if_pos h2, if_neg (by show ¬ 9223372036854775808 ≤ _; omega)]
      · rw [if_neg h2, if_pos (by show 9223372036854775808 ≤ _; omega)]
    · rw [if_neg h1, if_neg (by omega)]
end Go.Proofs.YthbipapihdppmaaDoor
