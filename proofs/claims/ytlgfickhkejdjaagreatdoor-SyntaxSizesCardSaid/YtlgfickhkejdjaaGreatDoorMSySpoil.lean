/-
  A valid expression that is spoiled is not valid any more. No program in sight.
-/
import Derived.Test.YtlgfickhkejdjaaGreatDoorMSyPlain
namespace Go.Proofs.YtlgfickhkejdjaaGreatDoor
namespace Sy
open Tr
theorem okE_name3 {o i : Int} {nm : ByteArray} {a : Bool} {n : Nat} (h : okE 3 o i nm a n = true) : varB nm = true := by
  unfold okE at h
  rw [Bool.and_eq_true] at h
  have h2 := h.2
  rw [if_neg (by decide), if_neg (by decide), if_neg (by decide), if_pos rfl, Bool.and_eq_true] at h2
  exact h2.2
theorem okE_name4 {o i : Int} {nm : ByteArray} {a : Bool} {n : Nat} (h : okE 4 o i nm a n = true) : varB nm = true := by
  unfold okE at h
  rw [Bool.and_eq_true] at h
  have h2 := h.2
  rw [if_neg (by decide), if_neg (by decide), if_neg (by decide), if_neg (by decide), if_pos rfl, Bool.and_eq_true] at h2
  exact h2.2
theorem okE_name5 {o i : Int} {nm : ByteArray} {a : Bool} {n : Nat} (h : okE 5 o i nm a n = true) : clsB nm = true := by
  unfold okE at h
  rw [Bool.and_eq_true] at h
  have h2 := h.2
  rw [if_neg (by decide), if_neg (by decide), if_neg (by decide), if_neg (by decide), if_neg (by decide), if_pos rfl, Bool.and_eq_true] at h2
  exact h2.1
theorem one_of {α : Type} {l : List α} (h : l.length = 1) : ∃ x, l = [x] := by
  match l, h with
  | [x], _ => exact ⟨x, rfl⟩
theorem two_of {α : Type} {l : List α} (h : l.length = 2) : ∃ x y, l = [x, y] := by
  match l, h with
  | [x, y], _ => exact ⟨x, y, rfl⟩
theorem okE_zero {k o i : Int} {nm : ByteArray} {a : Bool} {n : Nat} (h : okE k o i nm a n = true) : (k ≠ 0 → i = 0) ∧ (k ≠ 10 → o = 0) ∧ (k ≠ 5 → a = false) := by
  unfold okE at h
  rw [Bool.and_eq_true, Bool.not_eq_true', Bool.or_eq_false_iff, Bool.or_eq_false_iff, decide_eq_false_iff_not, decide_eq_false_iff_not, Bool.and_eq_false_iff, decide_eq_false_iff_not] at h
  obtain ⟨⟨⟨h1, h2⟩, h3⟩, _⟩ := h
  refine ⟨fun e => by omega, fun e => by omega, fun e => ?_⟩
  rcases h3 with h3 | h3
  · exact absurd e h3
  · exact h3
theorem okE_int (k o i : Int) (nm : ByteArray) (a : Bool) (n : Nat) (hk : k ≠ 0) (hi : i ≠ 0) : okE k o i nm a n = false := by
  unfold okE
  rw [show decide (k ≠ 0 ∧ i ≠ 0) = true from decide_eq_true ⟨hk, hi⟩]
  rfl
theorem okE_op (k o i : Int) (nm : ByteArray) (a : Bool) (n : Nat) (hk : k ≠ 10) (hi : o ≠ 0) : okE k o i nm a n = false := by
  unfold okE
  rw [show decide (k ≠ 10 ∧ o ≠ 0) = true from decide_eq_true ⟨hk, hi⟩, Bool.or_true]
  rfl
theorem okE_at (k o i : Int) (nm : ByteArray) (n : Nat) (hk : k ≠ 5) : okE k o i nm true n = false := by
  unfold okE
  rw [show decide (k ≠ 5) = true from decide_eq_true hk, Bool.and_true, Bool.or_true]
  rfl
theorem okE_kind {k o i : Int} {nm : ByteArray} {a : Bool} {n : Nat} (h : k < 0 ∨ 10 < k) : okE k o i nm a n = false := by
  unfold okE
  rw [if_neg (by omega), if_neg (by omega), if_neg (by omega), if_neg (by omega), if_neg (by omega), if_neg (by omega), if_neg (by omega), if_neg (by omega), if_neg (by omega), if_neg (by omega), if_neg (by omega), Bool.and_false]
theorem dot_var (s : ByteArray) (lo hi : Nat) : nameL lo hi (s ++ ⟨#[46]⟩).data.toList = false := by
  rw [Bool.eq_false_iff]
  intro h
  unfold nameL at h
  rw [Bool.and_eq_true] at h
  have := List.all_eq_true.1 h.2 46 (by rw [ByteArray.data_append, Array.toList_append]; simp)
  revert this
  decide
theorem dot_size (s : ByteArray) : (s ++ ⟨#[46]⟩).size ≠ 0 := by
  rw [ByteArray.size_append]
  show s.size + 1 ≠ 0
  omega
theorem okE_dot {k o i : Int} {nm : ByteArray} {a : Bool} {n : Nat} : okE k o i (nm ++ ⟨#[46]⟩) a n = false := by
  have h1 := dot_size nm
  have h2 : varB (nm ++ ⟨#[46]⟩) = false := dot_var nm 97 122
  have h3 : clsB (nm ++ ⟨#[46]⟩) = false := dot_var nm 65 90
  unfold okE
  rw [h2, h3]
  have key : ∀ (c : Prop) [Decidable c] (x y : Bool), x = false → y = false → (if c then x else y) = false := fun c _ x y hx hy => by split <;> assumption
  rw [Bool.and_eq_false_iff]
  right
  repeat' with_reducible refine key _ _ _ ?_ ?_
  all_goals first
    | rfl
    | (rw [Bool.and_false])
    | (rw [Bool.false_and])
    | (rw [decide_eq_false_iff_not]; omega)
    | (rw [decide_eq_false_iff_not]; rintro ⟨_, e, _⟩; exact h1 e)
    | (rw [decide_eq_false_iff_not]; rintro ⟨_, e⟩; exact h1 e)
/-- the spoiled expression, by the way in which it is spoiled -/
def spoil (h : Nat) : E → E
  | .mk k o i nm a l =>
    if h = 0 then .mk (k + 11) o i nm a l
    else if h = 1 then .mk k o i (nm ++ ⟨#[46]⟩) a l
    else if h = 2 then .mk k (if k = 10 then 13 else 1) i nm a l
    else if h = 3 then .mk k o (if k = 0 then -1 else 1) nm a l
    else if h = 4 then (if k = 5 then .mk k o i ⟨#[99]⟩ a l else .mk k o i nm true l)
    else .mk k o i nm a (l ++ if k = 5 then [.mk (-1) 0 0 ⟨#[]⟩ false []] else [.mk 0 0 0 ⟨#[]⟩ false [], .mk 0 0 0 ⟨#[]⟩ false []])
theorem spoil_bad (h : Nat) (e : E) (hv : validE e = true) : validE (spoil h e) = false := by
  obtain ⟨k, o, i, nm, a, l⟩ := e
  rw [validE, Bool.and_eq_true] at hv
  have hok := hv.2
  have hf := okE_forms hok
  rw [spoil]
  split
  · rw [validE, okE_kind (by omega), Bool.and_false]
  split
  · rw [validE, okE_dot, Bool.and_false]
  split
  · rw [validE]
    by_cases h10 : k = 10
    · subst h10
      rw [if_pos rfl]
      have : okE 10 13 i nm a l.length = false := by
        unfold okE
        rw [if_neg (by decide), if_neg (by decide), if_neg (by decide), if_neg (by decide), if_neg (by decide), if_neg (by decide), if_neg (by decide), if_neg (by decide), if_neg (by decide), if_neg (by decide), if_pos rfl, Bool.and_eq_false_iff]
        right
        rw [decide_eq_false_iff_not]
        omega
      rw [this, Bool.and_false]
    · rw [if_neg h10, okE_op _ _ _ _ _ _ h10 (by decide), Bool.and_false]
  split
  · rw [validE]
    by_cases h0 : k = 0
    · subst h0
      rw [if_pos rfl]
      have : okE 0 o (-1) nm a l.length = false := by
        unfold okE
        rw [if_pos rfl, Bool.and_eq_false_iff]
        right
        rw [decide_eq_false_iff_not]
        omega
      rw [this, Bool.and_false]
    · rw [if_neg h0, okE_int _ _ _ _ _ _ h0 (by decide), Bool.and_false]
  split
  · by_cases h5 : k = 5
    · subst h5
      rw [if_pos rfl, validE]
      have hc : clsB ⟨#[99]⟩ = false := by decide
      have : okE 5 o i ⟨#[99]⟩ a l.length = false := by
        unfold okE
        rw [if_neg (by decide), if_neg (by decide), if_neg (by decide), if_neg (by decide), if_neg (by decide), if_pos rfl, hc, Bool.false_and, Bool.and_false]
      rw [this, Bool.and_false]
    · rw [if_neg h5, validE, okE_at _ _ _ _ _ h5, Bool.and_false]
  · rw [validE]
    by_cases h5 : k = 5
    · subst h5
      rw [if_pos rfl, validEs_all, List.all_append]
      have : validE (.mk (-1) 0 0 ⟨#[]⟩ false []) = false := by decide
      simp [this]
    · rw [if_neg h5]
      have : okE k o i nm a (l ++ [E.mk 0 0 0 ⟨#[]⟩ false [], .mk 0 0 0 ⟨#[]⟩ false []]).length = false := by
        rw [Bool.eq_false_iff]
        intro h2
        have hf2 := okE_forms h2
        rw [List.length_append, List.length_cons, List.length_cons, List.length_nil] at hf2
        omega
      rw [this, Bool.and_false]
/-- the program that prints an expression -/
def printP (e : E) : List C := [⟨⟨#[65]⟩, true, [], [⟨⟨#[109]⟩, [], [.mk 6 ⟨#[]⟩ [e] [] []]⟩]⟩]
theorem printP_bad {e : E} (h : validE e = false) : validP (printP e) = false := by
  simp [validP, printP, validC, validM, validSs, validS, validEs, h]
end Sy
end Go.Proofs.YtlgfickhkejdjaaGreatDoor
