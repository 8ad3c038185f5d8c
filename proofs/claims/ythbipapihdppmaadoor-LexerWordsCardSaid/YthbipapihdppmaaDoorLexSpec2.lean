/-
  The specification's lexer: a token's text stands at the head of the text; the tokens ahead of a result.
-/
import Derived.Test.YthbipapihdppmaaDoorLexSpec
namespace Go.Proofs.YthbipapihdppmaaDoor
namespace Lex

theorem takeWhile_take {α : Type} (p : α → Bool) : ∀ l : List α, l.takeWhile p = l.take (l.takeWhile p).length
  | [] => rfl
  | a :: l => by
    by_cases h : p a
    · simp [h]; exact takeWhile_take p l
    · simp [h]
theorem takeWhile_le {α : Type} (p : α → Bool) (l : List α) : (l.takeWhile p).length ≤ l.length := (List.takeWhile_sublist p).length_le
theorem takeWhile_pos {α : Type} (p : α → Bool) (a : α) (l : List α) (h : p a = true) : 1 ≤ ((a :: l).takeWhile p).length := by
  rw [List.takeWhile_cons, if_pos h]; simp

/-- The token's text stands at the head. -/
theorem next_text {c : UInt8} {r : Bytes} {k : Nat} {t : Bytes} {v : Nat} (h : next (c :: r) = .tok k t v) : t = (c :: r).take t.length ∧ 1 ≤ t.length ∧ t.length ≤ (c :: r).length := by
  unfold next at h
  rw [List.headD_cons] at h
  by_cases hl : letter c = true
  · rw [if_pos hl] at h
    unfold nameAt at h
    have h1 := takeWhile_take wordc (c :: r)
    have h2 := takeWhile_le wordc (c :: r)
    have h3 := takeWhile_pos wordc c r (by unfold wordc; rw [hl]; rfl)
    generalize (c :: r).takeWhile wordc = T at h h1 h2 h3
    simp only at h
    split at h
    · cases h
    · split at h
      · cases h; exact ⟨h1, h3, h2⟩
      · split at h <;> (cases h; exact ⟨h1, h3, h2⟩)
  · rw [if_neg hl] at h
    by_cases hl : digit c = true
    · rw [if_pos hl] at h
      unfold numberAt at h
      have h1 := takeWhile_take digit (c :: r)
      have h2 := takeWhile_le digit (c :: r)
      have h3 := takeWhile_pos digit c r hl
      generalize (c :: r).takeWhile digit = T at h h1 h2 h3
      simp only at h
      split at h
      · cases h
      · split at h
        · cases h
        · split at h
          · cases h
          · cases h; exact ⟨h1, h3, h2⟩
    · rw [if_neg hl] at h
      unfold symbolAt at h
      split at h
      · rename_i hl
        cases h
        have e : ((c :: r).take 2).length = 2 := by rw [List.length_take]; omega
        rw [e]; exact ⟨rfl, by omega, hl.1⟩
      · split at h
        · cases h
          have e : ((c :: r).take 1).length = 1 := by rw [List.length_take]; simp
          rw [e]; exact ⟨rfl, by omega, by simp⟩
        · cases h

/-- An error is no 0. -/
theorem next_bad {l : Bytes} {e : Nat} (h : next l = .bad e) : 0 < e := by
  unfold next at h
  by_cases hl : letter (l.headD 0) = true
  · rw [if_pos hl] at h
    unfold nameAt at h
    simp only at h
    split at h
    · cases h; omega
    · split at h
      · cases h
      · split at h <;> cases h
  · rw [if_neg hl] at h
    by_cases hl : digit (l.headD 0) = true
    · rw [if_pos hl] at h
      unfold numberAt at h
      simp only at h
      split at h
      · cases h; omega
      · split at h
        · cases h; omega
        · split at h
          · cases h; omega
          · cases h
    · rw [if_neg hl] at h
      unfold symbolAt at h
      split at h
      · cases h
      · split at h
        · cases h
        · cases h; omega

/-- tokens ahead of a result -/
def pre (ts : List Tok) : Res → Res
  | .bad a e => .bad a e
  | .toks l => .toks (ts ++ l)
theorem pre_nil (r : Res) : pre [] r = r := by cases r <;> rfl

theorem scanF_nil (n f : Nat) : scanF n f [] = .toks [⟨0, [], 0, n⟩] := by cases f <;> rfl
theorem scanF_bad {n f : Nat} {c : UInt8} {r : Bytes} {e : Nat} (h : next (c :: r) = .bad e) : scanF n (f + 1) (c :: r) = .bad (n - (c :: r).length) e := by
  simp only [scanF, h]
theorem scanF_tok {n f : Nat} {c : UInt8} {r : Bytes} {k : Nat} {t : Bytes} {v : Nat} (h : next (c :: r) = .tok k t v) (ts : List Tok) :
    pre ts (scanF n (f + 1) (c :: r)) = pre (ts ++ [⟨k, t, v, n - (c :: r).length⟩]) (scanF n f (skip false ((c :: r).drop t.length))) := by
  simp only [scanF, h]
  cases scanF n f (skip false ((c :: r).drop t.length)) <;> simp [pre]

end Lex
end Go.Proofs.YthbipapihdppmaaDoor
