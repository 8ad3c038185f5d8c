/-
  The digits of a number, and what the lexer makes of them (no program in sight).
-/
import Derived.Test.YthbipapihdppmaaDoorLexExt
namespace Go.Proofs.YthbipapihdppmaaDoor

def dig (k : Nat) : UInt8 := UInt8.ofNat (48 + k % 10)
def dec (n : Nat) : List UInt8 := if _h : n < 10 then [dig n] else dec (n / 10) ++ [dig n]
termination_by n
decreasing_by omega

theorem dig_nat (k : Nat) : (dig k).toNat = 48 + k % 10 := by
  unfold dig
  rw [UInt8.toNat_ofNat']
  omega
theorem dig_digit (k : Nat) : Lex.digit (dig k) = true := by
  unfold Lex.digit
  rw [dig_nat]
  simp
  omega
theorem dec_small {n : Nat} (h : n < 10) : dec n = [dig n] := by unfold dec; rw [dif_pos h]
theorem dec_big {n : Nat} (h : ¬ n < 10) : dec n = dec (n / 10) ++ [dig n] := by rw [dec, dif_neg h]

theorem dec_all : ∀ n, ∀ c ∈ dec n, Lex.digit c = true := by
  intro n
  induction n using Nat.strongRecOn with
  | ind n ih =>
    by_cases h : n < 10
    · rw [dec_small h]; simp [dig_digit]
    · rw [dec_big h]
      intro c hc
      rcases List.mem_append.1 hc with h1 | h1
      · exact ih (n / 10) (by omega) c h1
      · rw [List.mem_singleton] at h1; rw [h1]; exact dig_digit n
theorem dec_ne : ∀ n, dec n ≠ [] := by
  intro n
  by_cases h : n < 10
  · rw [dec_small h]; simp
  · rw [dec_big h]; simp
theorem dec_value : ∀ n, Lex.value (dec n) = n := by
  intro n
  induction n using Nat.strongRecOn with
  | ind n ih =>
    by_cases h : n < 10
    · rw [dec_small h]
      show 10 * 0 + ((dig n).toNat - 48) = n
      rw [dig_nat]; omega
    · rw [dec_big h, Lex.value_snoc, ih (n / 10) (by omega), dig_nat]; omega
theorem dec_head : ∀ n, 0 < n → ((dec n).headD 0).toNat ≠ 48 := by
  intro n
  induction n using Nat.strongRecOn with
  | ind n ih =>
    intro hn
    by_cases h : n < 10
    · rw [dec_small h, List.headD_cons, dig_nat]; omega
    · rw [dec_big h]
      have h1 := ih (n / 10) (by omega) (by omega)
      have h2 := dec_ne (n / 10)
      cases hd : dec (n / 10) with
      | nil => exact absurd hd h2
      | cons a l => rw [hd] at h1; exact h1
theorem dec_len : ∀ k n, n < 10 ^ (k + 1) → (dec n).length ≤ k + 1 := by
  intro k
  induction k with
  | zero => intro n h; rw [dec_small (by omega)]; simp
  | succ k ih =>
    intro n h
    by_cases h1 : n < 10
    · rw [dec_small h1]; simp
    · rw [dec_big h1, List.length_append, List.length_singleton]
      have := ih (n / 10) (by rw [Nat.pow_succ] at h; omega)
      omega

theorem digit_solid {a : UInt8} (h : Lex.digit a = true) : Lex.space a = false ∧ ¬ a.toNat = 35 := by
  revert h; revert a; apply all_bytes; decide +kernel
theorem takeWhile_all_cons {p : UInt8 → Bool} {x : UInt8} (hx : p x = false) : ∀ l : List UInt8, (∀ c ∈ l, p c = true) → (l ++ [x]).takeWhile p = l
  | [], _ => by simp [hx]
  | a :: l, h => by
    rw [List.cons_append, List.takeWhile_cons, if_pos (h a (by simp)), takeWhile_all_cons hx l (fun c hc => h c (by simp [hc]))]

/-- the token at digits and a semicolon -/
theorem next_dec (n : Nat) : Lex.next (dec n ++ [59]) = if 2305843009213693951 < n then .bad 2 else .tok 1 (dec n) n := by
  have ha := dec_all n
  have hne := dec_ne n
  have hv := dec_value n
  have hh := dec_head n
  have h0 : n = 0 → (dec n).length = 1 := fun h => by subst h; rw [dec_small (by omega)]; rfl
  have hhead : Lex.digit ((dec n ++ [59]).headD 0) = true := by
    cases hd : dec n with
    | nil => exact absurd hd hne
    | cons a l => rw [hd] at ha; exact ha a (by simp)
  have hlet : Lex.letter ((dec n ++ [59]).headD 0) = false := by
    revert hhead
    generalize (dec n ++ [59]).headD 0 = c
    revert c
    apply all_bytes
    decide +kernel
  unfold Lex.next
  rw [hlet, if_neg (by simp), if_pos hhead]
  unfold Lex.numberAt
  rw [takeWhile_all_cons (by decide) _ ha]
  have hd : (dec n ++ [59]).drop (dec n).length = [59] := by simp
  simp only [hd, hv]
  rw [if_neg (by decide)]
  have h2 : ¬ (1 < (dec n).length ∧ (dec n).headD 0 = 48) := by
    rintro ⟨h3, h4⟩
    by_cases hn : n = 0
    · rw [h0 hn] at h3; omega
    · apply hh (by omega)
      rw [h4]; rfl
  rw [if_neg h2]

theorem scan_dec (n : Nat) (hn : n < 100000000000000000000) : Lex.scan (32 :: (dec n ++ [59])) = if 2305843009213693951 < n then .bad 1 2 else .toks [⟨1, dec n, n, 1⟩, ⟨5, [59], 0, 1 + (dec n).length⟩, ⟨0, [], 0, 2 + (dec n).length⟩] := by
  have hl := dec_len 19 n (by omega)
  have hnx := next_dec n
  have hne := dec_ne n
  have ha := dec_all n
  unfold Lex.scan
  have hlen : (32 :: (dec n ++ [59])).length = (dec n).length + 2 := by simp
  rw [if_neg (by omega), hlen]
  have hsk : Lex.skip false (32 :: (dec n ++ [59])) = dec n ++ [59] := by
    rw [skip_f, if_pos (by decide)]
    cases hd : dec n with
    | nil => exact absurd hd hne
    | cons a l =>
      rw [hd] at ha
      have h1 := ha a (by simp)
      have h2 := digit_solid h1
      rw [List.cons_append, skip_f, if_neg (by simp [h2.1]), if_neg h2.2]
  rw [hsk]
  cases hd : dec n with
  | nil => exact absurd hd hne
  | cons a l =>
    rw [hd] at hnx
    by_cases hbig : 2305843009213693951 < n
    · rw [if_pos hbig] at hnx ⊢
      rw [List.cons_append] at hnx ⊢
      rw [Lex.scanF_bad hnx]
      congr 1
      simp only [List.length_cons, List.length_append]; simp
    · rw [if_neg hbig] at hnx ⊢
      rw [List.cons_append] at hnx ⊢
      have h1 := Lex.scanF_tok (n := (a :: l).length + 2) (f := (a :: l).length + 1) hnx []
      rw [Lex.pre_nil] at h1
      rw [h1]
      have h2 : (a :: (l ++ [59])).drop (a :: l).length = [59] := by rw [← List.cons_append]; simp
      rw [h2]
      have h3 : Lex.skip false [59] = [59] := by decide
      have h4 : Lex.next [59] = .tok 5 [59] 0 := by decide
      rw [h3]
      have h5 := Lex.scanF_tok (n := (a :: l).length + 2) (f := (a :: l).length) h4 []
      rw [Lex.pre_nil] at h5
      rw [h5]
      have h6 : Lex.skip false (([59] : List UInt8).drop ([59] : List UInt8).length) = [] := by decide
      rw [h6, Lex.scanF_nil]
      simp only [Lex.pre, List.nil_append, List.cons_append, List.length_cons, List.length_append, List.length_nil]
      simp
      omega
end Go.Proofs.YthbipapihdppmaaDoor
