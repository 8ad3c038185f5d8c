/-
  The texts of identities: digits, numbers, what Parse and Format say. No program in sight.
-/
import Derived.Test.YtlhkkniebaganaaGreatDoorIdSpec
namespace Go.Proofs.YtlhkkniebaganaaGreatDoor
namespace Id

abbrev Bytes := List UInt8

def digit (c : UInt8) : Bool := decide (48 ≤ c.toNat ∧ c.toNat ≤ 57)
def value (l : Bytes) : Nat := l.foldl (fun n c => 10 * n + (c.toNat - 48)) 0
theorem value_snoc (l : Bytes) (c : UInt8) : value (l ++ [c]) = 10 * value l + (c.toNat - 48) := by
  unfold value; rw [List.foldl_append]; rfl

def dig (k : Nat) : UInt8 := UInt8.ofNat (48 + k % 10)
def dec (n : Nat) : Bytes := if _h : n < 10 then [dig n] else dec (n / 10) ++ [dig n]
termination_by n
decreasing_by omega

theorem dig_nat (k : Nat) : (dig k).toNat = 48 + k % 10 := by
  unfold dig
  rw [UInt8.toNat_ofNat']
  omega
theorem dig_digit (k : Nat) : digit (dig k) = true := by
  unfold digit
  rw [dig_nat]
  simp
  omega
theorem dec_small {n : Nat} (h : n < 10) : dec n = [dig n] := by unfold dec; rw [dif_pos h]
theorem dec_big {n : Nat} (h : ¬ n < 10) : dec n = dec (n / 10) ++ [dig n] := by rw [dec, dif_neg h]
theorem dec_all : ∀ n, ∀ c ∈ dec n, digit c = true := by
  intro n
  induction n using Nat.strongRecOn with
  | ind n ih =>
    by_cases h : n < 10
    · rw [dec_small h]; simp [dig_digit]
    · rw [dec_big h]
      intro c hc
      rcases List.mem_append.1 hc with h1 | h1
      · exact ih (n / 10) (by omega) c h1
      · rw [List.mem_singleton] at h1; rw [h1]; exact dig_digit n
theorem dec_ne : ∀ n, dec n ≠ [] := by
  intro n
  by_cases h : n < 10
  · rw [dec_small h]; simp
  · rw [dec_big h]; simp
theorem dec_value : ∀ n, value (dec n) = n := by
  intro n
  induction n using Nat.strongRecOn with
  | ind n ih =>
    by_cases h : n < 10
    · rw [dec_small h]
      show 10 * 0 + ((dig n).toNat - 48) = n
      rw [dig_nat]; omega
    · rw [dec_big h, value_snoc, ih (n / 10) (by omega), dig_nat]; omega
theorem dec_head : ∀ n, 0 < n → ((dec n).headD 0).toNat ≠ 48 := by
  intro n
  induction n using Nat.strongRecOn with
  | ind n ih =>
    intro hn
    by_cases h : n < 10
    · rw [dec_small h, List.headD_cons, dig_nat]; omega
    · rw [dec_big h]
      have h1 := ih (n / 10) (by omega) (by omega)
      have h2 := dec_ne (n / 10)
      cases hd : dec (n / 10) with
      | nil => exact absurd hd h2
      | cons a l => rw [hd] at h1; exact h1
theorem dec_len : ∀ k n, n < 10 ^ (k + 1) → (dec n).length ≤ k + 1 := by
  intro k
  induction k with
  | zero => intro n h; rw [dec_small (by omega)]; simp
  | succ k ih =>
    intro n h
    by_cases h1 : n < 10
    · rw [dec_small h1]; simp
    · rw [dec_big h1, List.length_append, List.length_singleton]
      have := ih (n / 10) (by rw [Nat.pow_succ] at h; omega)
      omega

/-- the digits of a number without a leading zero -/
def numOk (l : Bytes) : Bool := decide (l ≠ []) && l.all digit && !(decide (1 < l.length) && decide ((l.headD 0).toNat = 48))

theorem dig_of {c : UInt8} (h : digit c = true) (m : Nat) : dig (10 * m + (c.toNat - 48)) = c := by
  unfold digit at h
  have h := of_decide_eq_true h
  apply UInt8.toNat_inj.1
  rw [dig_nat]
  omega
theorem rev_ind {P : Bytes → Prop} (h0 : P []) (h1 : ∀ l a, P l → P (l ++ [a])) (l : Bytes) : P l := by
  have h : ∀ m : Bytes, P m.reverse := by
    intro m
    induction m with
    | nil => exact h0
    | cons a m ih => rw [List.reverse_cons]; exact h1 _ _ ih
  have := h l.reverse
  rwa [List.reverse_reverse] at this
theorem value_pos : ∀ {l : Bytes}, l.all digit = true → (l.headD 0).toNat ≠ 48 → l ≠ [] → 0 < value l := by
  intro l
  induction l using rev_ind with
  | h0 => intro _ _ h; exact absurd rfl h
  | h1 l c ih =>
    intro h1 h2 _
    rw [value_snoc]
    rw [List.all_append] at h1
    simp only [Bool.and_eq_true, List.all_cons, List.all_nil, Bool.and_true] at h1
    by_cases hl : l = []
    · subst hl
      have h4 : digit c = true := h1.2
      unfold digit at h4
      have h4 := of_decide_eq_true h4
      have h5 : c.toNat ≠ 48 := h2
      show 0 < 10 * 0 + (c.toNat - 48)
      omega
    · have h5 : ((l ++ [c]).headD 0) = l.headD 0 := by cases l with | nil => exact absurd rfl hl | cons a l => rfl
      rw [h5] at h2
      have := ih h1.1 h2 hl
      omega
theorem dec_of_value : ∀ {l : Bytes}, numOk l = true → dec (value l) = l := by
  intro l
  induction l using rev_ind with
  | h0 => intro h; simp [numOk] at h
  | h1 l c ih =>
    intro h
    unfold numOk at h
    simp only [Bool.and_eq_true, Bool.not_eq_true', decide_eq_true_eq, List.all_append, List.all_cons, List.all_nil, Bool.and_true, Bool.and_eq_false_iff, decide_eq_false_iff_not] at h
    obtain ⟨⟨_, h1, h2⟩, h3⟩ := h
    rw [value_snoc]
    have h5 : 48 ≤ c.toNat ∧ c.toNat ≤ 57 := of_decide_eq_true h2
    by_cases hl : l = []
    · subst hl
      show dec (10 * 0 + (c.toNat - 48)) = [c]
      rw [dec_small (by omega), dig_of h2 0]
    · have hlen : 0 < l.length := List.length_pos_iff.2 hl
      have h6 : ((l ++ [c]).headD 0) = l.headD 0 := by cases l with | nil => exact absurd rfl hl | cons a l => rfl
      rw [h6] at h3
      have h4 : (l.headD 0).toNat ≠ 48 := by
        rcases h3 with h3 | h3
        · rw [List.length_append, List.length_singleton] at h3; omega
        · exact h3
      have hp := value_pos h1 h4 hl
      have hok : numOk l = true := by
        unfold numOk
        simp only [Bool.and_eq_true, Bool.not_eq_true', decide_eq_true_eq, Bool.and_eq_false_iff, decide_eq_false_iff_not]
        exact ⟨⟨hl, h1⟩, .inr h4⟩
      rw [dec_big (by omega), dig_of h2, show (10 * value l + (c.toNat - 48)) / 10 = value l by omega, ih hok]
theorem numOk_dec (n : Nat) : numOk (dec n) = true := by
  unfold numOk
  simp only [Bool.and_eq_true, Bool.not_eq_true', decide_eq_true_eq, Bool.and_eq_false_iff, decide_eq_false_iff_not]
  refine ⟨⟨dec_ne n, List.all_eq_true.2 (dec_all n)⟩, ?_⟩
  by_cases h : n < 10
  · left; rw [dec_small h]; simp
  · right; exact dec_head n (by omega)

def validB (m n : Int) : Bool := decide (1 ≤ m ∧ m ≤ 8 ∧ 1 ≤ n ∧ n ≤ 1099511627775)

/-- the text up to the first colon -/
def upTo (r : Bytes) : Bytes := r.takeWhile fun c => decide (c ≠ 58)

/-- what Parse returns: the identity and the error (3: not the form; 2: no valid identity) -/
def parse : Bytes → I × Int
  | [] => ((0, 0), 3)
  | c :: r =>
    if c = 109 ∧ (upTo r).length < r.length ∧ numOk (upTo r) = true ∧ numOk (r.drop ((upTo r).length + 1)) = true then
      if validB (value (upTo r)) (value (r.drop ((upTo r).length + 1))) then ((value (upTo r), value (r.drop ((upTo r).length + 1))), 0) else ((0, 0), 2)
    else ((0, 0), 3)

theorem parse_cons (c : UInt8) (r : Bytes) : parse (c :: r) =
    (if c = 109 ∧ (upTo r).length < r.length ∧ numOk (upTo r) = true ∧ numOk (r.drop ((upTo r).length + 1)) = true then
      if validB (value (upTo r)) (value (r.drop ((upTo r).length + 1))) then (((value (upTo r) : Nat), (value (r.drop ((upTo r).length + 1)) : Nat)), 0) else ((0, 0), 2)
    else ((0, 0), 3) : I × Int) := rfl
def fmt (m n : Int) : Bytes := if validB m n then 109 :: (dec m.toNat ++ 58 :: dec n.toNat) else []

theorem upTo_app {a b : Bytes} (h : ∀ c ∈ a, c ≠ 58) : upTo (a ++ 58 :: b) = a := by
  unfold upTo
  induction a with
  | nil => simp
  | cons x a ih =>
    rw [List.cons_append, List.takeWhile_cons, if_pos (by simpa using h x (by simp)), ih fun c hc => h c (by simp [hc])]
theorem digit_ne {c : UInt8} (h : digit c = true) : c ≠ 58 := by
  unfold digit at h
  have h := of_decide_eq_true h
  intro e
  rw [e] at h
  exact absurd h (by decide)
theorem parse_fmt {m n : Int} (h : validB m n = true) : parse (fmt m n) = ((m, n), 0) := by
  unfold fmt
  rw [if_pos h, parse_cons]
  have h1 : upTo (dec m.toNat ++ 58 :: dec n.toNat) = dec m.toNat := upTo_app fun c hc => digit_ne (dec_all _ c hc)
  have h2 : (dec m.toNat ++ 58 :: dec n.toNat).drop ((dec m.toNat).length + 1) = dec n.toNat := by
    rw [← List.drop_drop, List.drop_left]; rfl
  simp only [h1, h2, dec_value]
  have hv : 1 ≤ m ∧ m ≤ 8 ∧ 1 ≤ n ∧ n ≤ 1099511627775 := of_decide_eq_true h
  have e1 : (m.toNat : Int) = m := by omega
  have e2 : (n.toNat : Int) = n := by omega
  rw [e1, e2, if_pos (⟨by trivial, by simp, numOk_dec _, numOk_dec _⟩), if_pos h]
theorem upTo_split {r : Bytes} (h : (upTo r).length < r.length) : r = upTo r ++ 58 :: r.drop ((upTo r).length + 1) := by
  unfold upTo at *
  induction r with
  | nil => simp at h
  | cons x r ih =>
    by_cases hx : x = 58
    · subst hx; simp
    · rw [List.takeWhile_cons, if_pos (by simpa using hx)] at h ⊢
      simp only [List.length_cons, Nat.add_lt_add_iff_right] at h
      rw [List.cons_append, List.length_cons, List.drop_succ_cons, ← ih h]
theorem parse_ok {l : Bytes} (h : (parse l).2 = 0) : validB (parse l).1.1 (parse l).1.2 = true ∧ fmt (parse l).1.1 (parse l).1.2 = l := by
  cases l with
  | nil => simp [parse] at h
  | cons c r =>
    rw [parse_cons] at h ⊢
    by_cases h1 : c = 109 ∧ (upTo r).length < r.length ∧ numOk (upTo r) = true ∧ numOk (r.drop ((upTo r).length + 1)) = true
    · rw [if_pos h1] at h ⊢
      by_cases h2 : validB (value (upTo r)) (value (r.drop ((upTo r).length + 1))) = true
      · rw [if_pos h2]
        refine ⟨h2, ?_⟩
        unfold fmt
        rw [if_pos h2]
        simp only [Int.toNat_natCast]
        rw [dec_of_value h1.2.2.1, dec_of_value h1.2.2.2, ← upTo_split h1.2.1, h1.1]
      · rw [if_neg h2] at h; simp at h
    · rw [if_neg h1] at h; simp at h
theorem parse_bad {l : Bytes} (h : (parse l).2 ≠ 0) : (parse l).1 = (0, 0) := by
  cases l with
  | nil => rfl
  | cons c r =>
    rw [parse_cons] at h ⊢
    split at h
    · rename_i h1
      rw [if_pos h1]
      split at h
      · exact absurd rfl h
      · rename_i h2; rw [if_neg h2]
    · rename_i h1; rw [if_neg h1]
end Id
end Go.Proofs.YtlhkkniebaganaaGreatDoor
