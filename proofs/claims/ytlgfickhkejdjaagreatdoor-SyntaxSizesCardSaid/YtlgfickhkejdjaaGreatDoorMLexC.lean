/-
  Several texts in one: LexGap, LexChain, LexExt, LexDec.
-/
import Derived.Test.YtlgfickhkejdjaaGreatDoorMLexB
namespace Go.Proofs.YtlgfickhkejdjaaGreatDoor
open Go.RowKit

/-- only spaces and comments (true: inside a comment) -/
def gapB : Bool → List UInt8 → Bool
  | _, [] => true
  | true, x :: r => if x.toNat = 10 then gapB false r else gapB true r
  | false, x :: r => if x.toNat = 10 then gapB false r else if x.toNat = 35 then gapB true r else if x.toNat = 32 ∨ x.toNat = 9 ∨ x.toNat = 13 then gapB false r else false

theorem gapB_t (x : UInt8) (r : List UInt8) : gapB true (x :: r) = if x.toNat = 10 then gapB false r else gapB true r := rfl
theorem gapB_f (x : UInt8) (r : List UInt8) : gapB false (x :: r) = if x.toNat = 10 then gapB false r else if x.toNat = 35 then gapB true r else if x.toNat = 32 ∨ x.toNat = 9 ∨ x.toNat = 13 then gapB false r else false := rfl

theorem gap_skip : ∀ (l : List UInt8), (gapB false (l.take (l.length - (Lex.skip false l).length)) = true) ∧ (gapB true (l.take (l.length - (Lex.skip true l).length)) = true)
  | [] => by simp [Lex.skip, gapB]
  | c :: r => by
    obtain ⟨i1, i2⟩ := gap_skip r
    have l1 := Lex.skip_le false r
    have l2 := Lex.skip_le true r
    constructor
    · rw [skip_f]
      by_cases h : Lex.space c = true
      · rw [if_pos h, List.length_cons, show r.length + 1 - (Lex.skip false r).length = (r.length - (Lex.skip false r).length) + 1 by omega, List.take_succ_cons, gapB_f, i1]
        rw [space_iff] at h
        by_cases h10 : c.toNat = 10
        · rw [if_pos h10]
        · rw [if_neg h10, if_neg (by omega), if_pos (by omega)]
      · rw [if_neg h]
        by_cases h35 : c.toNat = 35
        · rw [if_pos h35, List.length_cons, show r.length + 1 - (Lex.skip true r).length = (r.length - (Lex.skip true r).length) + 1 by omega, List.take_succ_cons, gapB_f, i2, if_neg (by omega), if_pos h35]
        · rw [if_neg h35, Nat.sub_self]; rfl
    · rw [skip_t]
      by_cases h10 : c.toNat = 10
      · rw [if_pos h10, List.length_cons, show r.length + 1 - (Lex.skip false r).length = (r.length - (Lex.skip false r).length) + 1 by omega, List.take_succ_cons, gapB_t, i1, if_pos h10]
      · rw [if_neg h10, List.length_cons, show r.length + 1 - (Lex.skip true r).length = (r.length - (Lex.skip true r).length) + 1 by omega, List.take_succ_cons, gapB_t, i2, if_neg h10]

/-- the tokens of l (of n bytes) from offset a on: in order, their texts where they say, gaps between them, the end last -/
def Chain (l : List UInt8) (n : Nat) : Nat → List Lex.Tok → Prop
  | _, [] => False
  | a, [t] => t = ⟨0, [], 0, n⟩ ∧ a ≤ n ∧ gapB false ((l.drop a).take (n - a)) = true
  | a, t :: ts => t.kind ≠ 0 ∧ t.text ≠ [] ∧ a ≤ t.pos ∧ t.pos + t.text.length ≤ n ∧ t.text = (l.drop t.pos).take t.text.length ∧ gapB false ((l.drop a).take (t.pos - a)) = true ∧ Chain l n (t.pos + t.text.length) ts
end Go.Proofs.YtlgfickhkejdjaaGreatDoor

namespace Go.Proofs.YtlgfickhkejdjaaGreatDoor

theorem next_kind {l : List UInt8} {k : Nat} {t : List UInt8} {v : Nat} (h : Lex.next l = .tok k t v) : k ≠ 0 := by
  unfold Lex.next at h
  by_cases hl : Lex.letter (l.headD 0) = true
  · rw [if_pos hl] at h
    unfold Lex.nameAt at h
    simp only at h
    split at h
    · cases h
    · split at h
      · cases h; omega
      · split at h <;> (cases h; omega)
  · rw [if_neg hl] at h
    by_cases hl : Lex.digit (l.headD 0) = true
    · rw [if_pos hl] at h
      unfold Lex.numberAt at h
      simp only at h
      split at h
      · cases h
      · split at h
        · cases h
        · split at h
          · cases h
          · cases h; omega
    · rw [if_neg hl] at h
      unfold Lex.symbolAt at h
      split at h
      · cases h; omega
      · split at h
        · cases h; omega
        · cases h

theorem drop_skip (l : List UInt8) (a : Nat) (ha : a ≤ l.length) : Lex.skip false (l.drop a) = l.drop (l.length - (Lex.skip false (l.drop a)).length) := by
  have h := Lex.skip_drop false (l.drop a)
  have hle := Lex.skip_le false (l.drop a)
  rw [List.length_drop] at h hle
  conv => lhs; rw [h]
  rw [List.drop_drop]
  congr 1
  omega

theorem chain_scanF (l : List UInt8) : ∀ (f a : Nat) (ts : List Lex.Tok), a ≤ l.length → Lex.scanF l.length f (Lex.skip false (l.drop a)) = .toks ts → Chain l l.length a ts := by
  intro f
  induction f with
  | zero =>
    intro a ts ha h
    have hgap := (gap_skip (l.drop a)).1
    cases hR : Lex.skip false (l.drop a) with
    | nil =>
      rw [hR] at h hgap
      cases h
      rw [List.length_drop, List.length_nil, Nat.sub_zero] at hgap
      exact ⟨rfl, ha, hgap⟩
    | cons c r => rw [hR] at h; cases h
  | succ f ih =>
    intro a ts ha h
    have hgap := (gap_skip (l.drop a)).1
    have hd := drop_skip l a ha
    have hle := Lex.skip_le false (l.drop a)
    cases hR : Lex.skip false (l.drop a) with
    | nil =>
      rw [hR] at h hgap
      cases h
      rw [List.length_drop, List.length_nil, Nat.sub_zero] at hgap
      exact ⟨rfl, ha, hgap⟩
    | cons c r =>
      rw [hR] at h hgap hd hle
      rw [List.length_drop] at hgap hle
      cases hn : Lex.next (c :: r) with
      | bad e => rw [Lex.scanF_bad hn] at h; cases h
      | tok kd tx vl =>
        obtain ⟨htx, hp, hlt⟩ := Lex.next_text hn
        have hk := next_kind hn
        have hs := Lex.scanF_tok (n := l.length) (f := f) hn []
        rw [Lex.pre_nil, h, hd] at hs
        have hrl : (c :: r).length ≤ l.length := by omega
        have hlen : (l.drop (l.length - (c :: r).length)).length = (c :: r).length := by rw [List.length_drop]; omega
        rw [List.drop_drop] at hs
        rw [hlen] at hs
        cases hs2 : Lex.scanF l.length f (Lex.skip false (l.drop (l.length - (c :: r).length + tx.length))) with
        | bad a e => rw [hs2] at hs; cases hs
        | toks us =>
          rw [hs2] at hs
          cases hs
          have hc := ih (l.length - (c :: r).length + tx.length) us (by omega) hs2
          cases us with
          | nil => exact absurd hs2 (fun e => scanF_ne _ _ _ _ e rfl)
          | cons u us =>
            refine ⟨hk, ?_, by show a ≤ l.length - (c :: r).length; omega, by show l.length - (c :: r).length + tx.length ≤ l.length; omega, ?_, ?_, hc⟩
            · show tx ≠ []
              intro e
              rw [e] at hp
              simp at hp
            · show tx = (l.drop (l.length - (c :: r).length)).take tx.length
              rw [← hd]; exact htx
            · show gapB false ((l.drop a).take (l.length - (c :: r).length - a)) = true
              rw [show l.length - (c :: r).length - a = l.length - a - (c :: r).length by omega]
              exact hgap

theorem chain_scan {l : List UInt8} {ts : List Lex.Tok} (h : Lex.scan l = .toks ts) : Chain l l.length 0 ts := by
  unfold Lex.scan at h
  split at h
  · cases h
  · exact chain_scanF l _ 0 ts (Nat.zero_le _) (by rw [List.drop_zero]; exact h)
end Go.Proofs.YtlgfickhkejdjaaGreatDoor

namespace Go.Proofs.YtlgfickhkejdjaaGreatDoor

theorem space_word {x : UInt8} (h : Lex.space x = true) : Lex.wordc x = false := by
  revert h; revert x; apply all_bytes; decide +kernel
theorem space_digit {x : UInt8} (h : Lex.space x = true) : Lex.digit x = false := by
  revert h; revert x; apply all_bytes; decide +kernel
theorem space_tail {x : UInt8} (h : Lex.space x = true) : Lex.tailc x = false := by
  revert h; revert x; apply all_bytes; decide +kernel
theorem space_sym {c x : UInt8} (h : Lex.space x = true) : Lex.symbols.contains [c, x] = false := by
  rw [Bool.eq_false_iff]
  intro hc
  rw [List.contains_iff_mem] at hc
  have hall : ∀ l ∈ Lex.symbols, ∀ y ∈ l, Lex.space y = false := by decide +kernel
  have := hall _ hc x (by simp)
  rw [h] at this
  cases this

theorem takeWhile_ext {p : UInt8 → Bool} {x : UInt8} (hx : p x = false) (m : List UInt8) : ∀ l : List UInt8, (l ++ x :: m).takeWhile p = l.takeWhile p
  | [] => by simp [hx]
  | a :: l => by
    rw [List.cons_append, List.takeWhile_cons, List.takeWhile_cons]
    by_cases h : p a = true
    · rw [if_pos h, if_pos h, takeWhile_ext hx m l]
    · rw [if_neg h, if_neg h]

/-- A token does not change where a space follows the text. -/
theorem next_ext {x : UInt8} (hx : Lex.space x = true) (m : List UInt8) (c : UInt8) (r : List UInt8) : Lex.next (c :: r ++ x :: m) = Lex.next (c :: r) := by
  unfold Lex.next
  rw [List.cons_append, List.headD_cons, List.headD_cons, ← List.cons_append]
  by_cases h1 : Lex.letter c = true
  · rw [if_pos h1, if_pos h1]
    unfold Lex.nameAt
    rw [takeWhile_ext (space_word hx)]
  · rw [if_neg h1, if_neg h1]
    by_cases h2 : Lex.digit c = true
    · rw [if_pos h2, if_pos h2]
      unfold Lex.numberAt
      rw [takeWhile_ext (space_digit hx)]
      have hle := Lex.takeWhile_le Lex.digit (c :: r)
      generalize List.takeWhile Lex.digit (c :: r) = T at hle ⊢
      have : ((c :: r ++ x :: m).drop T.length).head?.any Lex.tailc = ((c :: r).drop T.length).head?.any Lex.tailc := by
        rw [List.drop_append_of_le_length hle]
        cases (c :: r).drop T.length with
        | nil => simp [space_tail hx]
        | cons a b => rfl
      simp only [this]
    · rw [if_neg h2, if_neg h2]
      unfold Lex.symbolAt
      cases r with
      | nil =>
        have h3 : (([c] : List UInt8) ++ x :: m).take 2 = [c, x] := rfl
        have h4 : (([c] : List UInt8) ++ x :: m).take 1 = [c] := rfl
        have h5 : ([c] : List UInt8).take 1 = [c] := rfl
        have h6 : ¬ (2 ≤ (([c] : List UInt8) ++ x :: m).length ∧ (false = true)) := fun h => by cases h.2
        have h7 : ¬ (2 ≤ ([c] : List UInt8).length ∧ Lex.symbols.contains (([c] : List UInt8).take 2) = true) := fun h => by simp at h
        rw [h3, space_sym hx, if_neg h6, if_neg h7, h4, h5]
      | cons b r =>
        have h3 : (c :: b :: r ++ x :: m).take 2 = (c :: b :: r).take 2 := rfl
        have h4 : (c :: b :: r ++ x :: m).take 1 = (c :: b :: r).take 1 := rfl
        rw [h3, h4]
        have h5 : 2 ≤ (c :: b :: r ++ x :: m).length := by simp
        have h6 : 2 ≤ (c :: b :: r).length := by simp
        simp only [h5, h6, true_and]

/-- skip, where something is left -/
theorem skip_ext (m : List UInt8) : ∀ (b : Bool) (l : List UInt8), Lex.skip b l ≠ [] → Lex.skip b (l ++ m) = Lex.skip b l ++ m
  | true, [], h => absurd rfl h
  | false, [], h => absurd rfl h
  | true, c :: r, h => by
    rw [skip_t] at h
    rw [List.cons_append, skip_t, skip_t]
    split
    · rename_i h1; rw [if_pos h1] at h; exact skip_ext m false r h
    · rename_i h1; rw [if_neg h1] at h; exact skip_ext m true r h
  | false, c :: r, h => by
    rw [skip_f] at h
    rw [List.cons_append, skip_f, skip_f]
    split
    · rename_i h1; rw [if_pos h1] at h; exact skip_ext m false r h
    · rename_i h1
      rw [if_neg h1] at h
      split
      · rename_i h2; rw [if_pos h2] at h; exact skip_ext m true r h
      · rfl
/-- skip, where nothing is left ahead of a line feed -/
theorem skip_line (m : List UInt8) : ∀ (b : Bool) (l : List UInt8), Lex.skip b l = [] → Lex.skip b (l ++ 10 :: m) = Lex.skip false m
  | true, [], _ => by rw [List.nil_append, skip_t]; rfl
  | false, [], _ => by rw [List.nil_append, skip_f]; rfl
  | true, c :: r, h => by
    rw [skip_t] at h
    rw [List.cons_append, skip_t]
    split
    · rename_i h1; rw [if_pos h1] at h; exact skip_line m false r h
    · rename_i h1; rw [if_neg h1] at h; exact skip_line m true r h
  | false, c :: r, h => by
    rw [skip_f] at h
    rw [List.cons_append, skip_f]
    split
    · rename_i h1; rw [if_pos h1] at h; exact skip_line m false r h
    · rename_i h1
      rw [if_neg h1] at h
      split
      · rename_i h2; rw [if_pos h2] at h; exact skip_line m true r h
      · rename_i h2; rw [if_neg h2] at h; cases h

theorem scanF_fuel (n : Nat) : ∀ (f g : Nat) (l : List UInt8), l.length ≤ f → l.length ≤ g → Lex.scanF n f l = Lex.scanF n g l
  | f, g, [], _, _ => by rw [Lex.scanF_nil, Lex.scanF_nil]
  | 0, _, _ :: _, h, _ => by simp at h
  | _, 0, _ :: _, _, h => by simp at h
  | f + 1, g + 1, c :: r, hf, hg => by
    cases hn : Lex.next (c :: r) with
    | bad e => rw [Lex.scanF_bad hn, Lex.scanF_bad hn]
    | tok k t v =>
      have h1 := Lex.scanF_tok (n := n) (f := f) hn []
      have h2 := Lex.scanF_tok (n := n) (f := g) hn []
      rw [Lex.pre_nil] at h1 h2
      rw [h1, h2]
      have hp := (Lex.next_text hn).2.1
      have hle := Lex.skip_le false ((c :: r).drop t.length)
      rw [List.length_drop] at hle
      rw [List.length_cons] at hf hg hle
      rw [scanF_fuel n f g _ (by omega) (by omega)]

/-- An error stays where it is if the text goes on behind a space. -/
theorem bad_ext {x : UInt8} (hx : Lex.space x = true) (m : List UInt8) (n : Nat) : ∀ (f : Nat) (l : List UInt8) (a e : Nat), l.length ≤ n → (Lex.skip false l).length ≤ f → Lex.scanF n f (Lex.skip false l) = .bad a e →
    ∀ g, (Lex.skip false l).length + 1 + m.length ≤ g → Lex.scanF (n + 1 + m.length) g (Lex.skip false (l ++ x :: m)) = .bad a e := by
  intro f
  induction f with
  | zero =>
    intro l a e hn hf h g hg
    have : Lex.skip false l = [] := List.eq_nil_of_length_eq_zero (by omega)
    rw [this, Lex.scanF_nil] at h
    cases h
  | succ f ih =>
    intro l a e hn hf h g hg
    have hle := Lex.skip_le false l
    cases hR : Lex.skip false l with
    | nil => rw [hR, Lex.scanF_nil] at h; cases h
    | cons c r =>
      have hne : Lex.skip false l ≠ [] := by rw [hR]; simp
      rw [skip_ext (x :: m) false l hne, hR]
      rw [hR] at h hf hg hle
      obtain ⟨g, rfl⟩ : ∃ k, g = k + 1 := ⟨g - 1, by omega⟩
      rw [List.length_cons] at hf hg hle
      cases hN : Lex.next (c :: r) with
      | bad e2 =>
        rw [Lex.scanF_bad hN] at h
        have hN2 := next_ext hx m c r
        rw [hN] at hN2
        rw [List.cons_append] at hN2 ⊢
        rw [Lex.scanF_bad hN2]
        cases h
        congr 1
        simp only [List.length_cons, List.length_append]
        omega
      | tok k t v =>
        have hN2 := next_ext hx m c r
        rw [hN] at hN2
        have h1 := Lex.scanF_tok (n := n) (f := f) hN []
        rw [Lex.pre_nil, h] at h1
        rw [List.cons_append] at hN2 ⊢
        have h2 := Lex.scanF_tok (n := n + 1 + m.length) (f := g) hN2 []
        rw [Lex.pre_nil] at h2
        rw [h2]
        obtain ⟨_, hp, hlt⟩ := Lex.next_text hN
        have hdl : ((c :: r).drop t.length).length = (c :: r).length - t.length := List.length_drop
        have hs2 := Lex.skip_le false ((c :: r).drop t.length)
        cases hs : Lex.scanF n f (Lex.skip false ((c :: r).drop t.length)) with
        | toks us => rw [hs] at h1; cases h1
        | bad a2 e2 =>
          rw [hs] at h1
          cases h1
          have hd : (c :: (r ++ x :: m)).drop t.length = (c :: r).drop t.length ++ x :: m := by
            rw [← List.cons_append, List.drop_append_of_le_length hlt]
          rw [hd]
          rw [List.length_cons] at hdl hlt
          rw [ih _ a e (by omega) (by omega) hs g (by omega)]
          rfl
/-- What is skipped, alone. -/
theorem skip_gone : ∀ (b : Bool) (l : List UInt8), Lex.skip b (l.take (l.length - (Lex.skip b l).length)) = []
  | true, [] => rfl
  | false, [] => rfl
  | true, c :: r => by
    have l1 := Lex.skip_le false r
    have l2 := Lex.skip_le true r
    rw [skip_t]
    by_cases h : c.toNat = 10
    · rw [if_pos h, List.length_cons, show r.length + 1 - (Lex.skip false r).length = (r.length - (Lex.skip false r).length) + 1 by omega, List.take_succ_cons, skip_t, if_pos h]
      exact skip_gone false r
    · rw [if_neg h, List.length_cons, show r.length + 1 - (Lex.skip true r).length = (r.length - (Lex.skip true r).length) + 1 by omega, List.take_succ_cons, skip_t, if_neg h]
      exact skip_gone true r
  | false, c :: r => by
    have l1 := Lex.skip_le false r
    have l2 := Lex.skip_le true r
    rw [skip_f]
    by_cases h : Lex.space c = true
    · rw [if_pos h, List.length_cons, show r.length + 1 - (Lex.skip false r).length = (r.length - (Lex.skip false r).length) + 1 by omega, List.take_succ_cons, skip_f, if_pos h]
      exact skip_gone false r
    · rw [if_neg h]
      by_cases h2 : c.toNat = 35
      · rw [if_pos h2, List.length_cons, show r.length + 1 - (Lex.skip true r).length = (r.length - (Lex.skip true r).length) + 1 by omega, List.take_succ_cons, skip_f, if_neg h, if_pos h2]
        exact skip_gone true r
      · rw [if_neg h2, Nat.sub_self, List.take_zero]; rfl
/-- What is skipped, and a part of what is left. -/
theorem skip_take (k : Nat) : ∀ (b : Bool) (l : List UInt8), Lex.skip b l ≠ [] → Lex.skip b (l.take (l.length - (Lex.skip b l).length + (k + 1))) = (Lex.skip b l).take (k + 1)
  | true, [], h => absurd rfl h
  | false, [], h => absurd rfl h
  | true, c :: r, hn => by
    have l1 := Lex.skip_le false r
    have l2 := Lex.skip_le true r
    rw [skip_t] at hn ⊢
    by_cases h : c.toNat = 10
    · rw [if_pos h] at hn ⊢
      rw [List.length_cons, show r.length + 1 - (Lex.skip false r).length + (k + 1) = (r.length - (Lex.skip false r).length + (k + 1)) + 1 by omega, List.take_succ_cons, skip_t, if_pos h]
      exact skip_take k false r hn
    · rw [if_neg h] at hn ⊢
      rw [List.length_cons, show r.length + 1 - (Lex.skip true r).length + (k + 1) = (r.length - (Lex.skip true r).length + (k + 1)) + 1 by omega, List.take_succ_cons, skip_t, if_neg h]
      exact skip_take k true r hn
  | false, c :: r, hn => by
    have l1 := Lex.skip_le false r
    have l2 := Lex.skip_le true r
    rw [skip_f] at hn ⊢
    by_cases h : Lex.space c = true
    · rw [if_pos h] at hn ⊢
      rw [List.length_cons, show r.length + 1 - (Lex.skip false r).length + (k + 1) = (r.length - (Lex.skip false r).length + (k + 1)) + 1 by omega, List.take_succ_cons, skip_f, if_pos h]
      exact skip_take k false r hn
    · rw [if_neg h] at hn ⊢
      by_cases h2 : c.toNat = 35
      · rw [if_pos h2] at hn ⊢
        rw [List.length_cons, show r.length + 1 - (Lex.skip true r).length + (k + 1) = (r.length - (Lex.skip true r).length + (k + 1)) + 1 by omega, List.take_succ_cons, skip_f, if_neg h, if_pos h2]
        exact skip_take k true r hn
      · rw [if_neg h2, Nat.sub_self, Nat.zero_add, List.take_succ_cons, skip_f, if_neg h, if_neg h2]

theorem takeWhile_cut {p : UInt8 → Bool} : ∀ (l : List UInt8) (j : Nat), (l.take ((l.takeWhile p).length + j)).takeWhile p = l.takeWhile p
  | [], j => by simp
  | a :: l, j => by
    by_cases h : p a = true
    · rw [List.takeWhile_cons, if_pos h, List.length_cons, show (l.takeWhile p).length + 1 + j = ((l.takeWhile p).length + j) + 1 by omega, List.take_succ_cons, List.takeWhile_cons, if_pos h, takeWhile_cut l j]
    · rw [List.takeWhile_cons, if_neg h, List.length_nil]
      cases j with
      | zero => rfl
      | succ j => rw [Nat.zero_add, List.take_succ_cons, List.takeWhile_cons, if_neg h]

/-- A token does not change where the text ends behind it. -/
theorem next_cut {c : UInt8} {r : List UInt8} {k : Nat} {t : List UInt8} {v : Nat} (j : Nat) (h : Lex.next (c :: r) = .tok k t v) : Lex.next ((c :: r).take (t.length + j)) = .tok k t v := by
  obtain ⟨_, hp, _⟩ := Lex.next_text h
  have hd : ((c :: r).take (t.length + j)).headD 0 = c := by
    rw [show t.length + j = (t.length - 1 + j) + 1 by omega, List.take_succ_cons, List.headD_cons]
  unfold Lex.next at h ⊢
  rw [hd]
  rw [List.headD_cons] at h
  by_cases h1 : Lex.letter c = true
  · rw [if_pos h1] at h ⊢
    unfold Lex.nameAt at h ⊢
    have ht : t = (c :: r).takeWhile Lex.wordc := by
      generalize (c :: r).takeWhile Lex.wordc = T at h
      simp only at h
      split at h
      · cases h
      · split at h
        · cases h; rfl
        · split at h <;> (cases h; rfl)
    have hc := takeWhile_cut (p := Lex.wordc) (c :: r) j
    rw [← ht] at hc h
    rw [hc]
    exact h
  · rw [if_neg h1] at h ⊢
    by_cases h2 : Lex.digit c = true
    · rw [if_pos h2] at h ⊢
      unfold Lex.numberAt at h ⊢
      have ht : t = (c :: r).takeWhile Lex.digit := by
        generalize (c :: r).takeWhile Lex.digit = T at h
        simp only at h
        split at h
        · cases h
        · split at h
          · cases h
          · split at h
            · cases h
            · cases h; rfl
      have hc := takeWhile_cut (p := Lex.digit) (c :: r) j
      rw [← ht] at hc h
      rw [hc]
      simp only at h ⊢
      by_cases h3 : ((c :: r).drop t.length).head?.any Lex.tailc = true
      · rw [if_pos h3] at h; cases h
      · rw [if_neg h3] at h
        have h4 : ¬ (((c :: r).take (t.length + j)).drop t.length).head?.any Lex.tailc = true := by
          rw [List.drop_take, Nat.add_sub_cancel_left]
          intro h5
          apply h3
          revert h5
          cases (c :: r).drop t.length with
          | nil => simp
          | cons a b => cases j <;> simp
        rw [if_neg h4]
        exact h
    · rw [if_neg h2] at h ⊢
      unfold Lex.symbolAt at h ⊢
      by_cases h3 : 2 ≤ (c :: r).length ∧ Lex.symbols.contains ((c :: r).take 2) = true
      · rw [if_pos h3] at h
        have ht : t.length = 2 := by cases h; rw [List.length_take]; omega
        have h4 : ((c :: r).take (t.length + j)).take 2 = (c :: r).take 2 := by rw [List.take_take]; congr 1; omega
        have h5 : 2 ≤ ((c :: r).take (t.length + j)).length := by rw [List.length_take]; omega
        rw [h4, if_pos ⟨h5, h3.2⟩]
        exact h
      · rw [if_neg h3] at h
        have h4 : ((c :: r).take (t.length + j)).take 1 = (c :: r).take 1 := by rw [List.take_take]; congr 1; omega
        have h5 : ¬ (2 ≤ ((c :: r).take (t.length + j)).length ∧ Lex.symbols.contains (((c :: r).take (t.length + j)).take 2) = true) := by
          intro ⟨h6, h7⟩
          apply h3
          rw [List.length_take] at h6
          rw [List.take_take, show min 2 (t.length + j) = 2 by omega] at h7
          exact ⟨by omega, h7⟩
        rw [if_neg h5, h4]
        exact h

/-- The text ahead of an error can be scanned. -/
theorem bad_cut (n : Nat) : ∀ (f : Nat) (l : List UInt8) (a e : Nat), l.length ≤ n → (Lex.skip false l).length ≤ f → Lex.scanF n f (Lex.skip false l) = .bad a e →
    n - l.length ≤ a ∧ a < n ∧ ∀ n2 g, (Lex.skip false (l.take (a - (n - l.length)))).length ≤ g → ∃ ts, Lex.scanF n2 g (Lex.skip false (l.take (a - (n - l.length)))) = .toks ts := by
  intro f
  induction f with
  | zero =>
    intro l a e hn hf h
    have : Lex.skip false l = [] := List.eq_nil_of_length_eq_zero (by omega)
    rw [this, Lex.scanF_nil] at h
    cases h
  | succ f ih =>
    intro l a e hn hf h
    have hle := Lex.skip_le false l
    have hgone := skip_gone false l
    have htake := fun k => skip_take k false l
    cases hR : Lex.skip false l with
    | nil => rw [hR, Lex.scanF_nil] at h; cases h
    | cons c r =>
      rw [hR] at h hf hle hgone
      simp only [hR] at htake
      cases hN : Lex.next (c :: r) with
      | bad e2 =>
        rw [Lex.scanF_bad hN] at h
        cases h
        rw [List.length_cons] at hf hle hgone ⊢
        refine ⟨by omega, by omega, fun n2 g _ => ?_⟩
        rw [show n - (r.length + 1) - (n - l.length) = l.length - (r.length + 1) by omega, hgone]
        exact ⟨_, Lex.scanF_nil _ _⟩
      | tok k t v =>
        have h1 := Lex.scanF_tok (n := n) (f := f) hN []
        rw [Lex.pre_nil, h] at h1
        obtain ⟨_, hp, hlt⟩ := Lex.next_text hN
        have hdl : ((c :: r).drop t.length).length = (c :: r).length - t.length := List.length_drop
        have hs2 := Lex.skip_le false ((c :: r).drop t.length)
        cases hs : Lex.scanF n f (Lex.skip false ((c :: r).drop t.length)) with
        | toks us => rw [hs] at h1; cases h1
        | bad a2 e2 =>
          rw [hs] at h1
          cases h1
          obtain ⟨i1, i2, i3⟩ := ih _ a e (by omega) (by omega) hs
          rw [hdl] at i1 i3
          have hc : n - l.length ≤ a := by omega
          refine ⟨hc, i2, fun n2 g hg => ?_⟩
          have e1 : a - (n - l.length) = l.length - (c :: r).length + ((t.length - 1 + (a - (n - ((c :: r).length - t.length)))) + 1) := by omega
          have e2 : (t.length - 1 + (a - (n - ((c :: r).length - t.length)))) + 1 = t.length + (a - (n - ((c :: r).length - t.length))) := by omega
          rw [e1, htake _ (by simp), e2] at hg ⊢
          have hN2 := next_cut (a - (n - ((c :: r).length - t.length))) hN
          have hcons : (c :: r).take (t.length + (a - (n - ((c :: r).length - t.length)))) = c :: r.take (t.length + (a - (n - ((c :: r).length - t.length))) - 1) := by
            rw [show t.length + (a - (n - ((c :: r).length - t.length))) = (t.length + (a - (n - ((c :: r).length - t.length))) - 1) + 1 by omega, List.take_succ_cons]
            rfl
          have hdr : ((c :: r).take (t.length + (a - (n - ((c :: r).length - t.length))))).drop t.length = ((c :: r).drop t.length).take (a - (n - ((c :: r).length - t.length))) := by
            rw [List.drop_take, Nat.add_sub_cancel_left]
          rw [hcons] at hN2 hg hdr ⊢
          obtain ⟨g, rfl⟩ : ∃ k, g = k + 1 := ⟨g - 1, by rw [List.length_cons] at hg; omega⟩
          have h2 := Lex.scanF_tok (n := n2) (f := g) hN2 []
          rw [Lex.pre_nil, hdr] at h2
          rw [h2]
          have hlen := congrArg List.length hdr
          rw [List.length_drop] at hlen
          have hs3 := Lex.skip_le false (((c :: r).drop t.length).take (a - (n - ((c :: r).length - t.length))))
          obtain ⟨ts, i4⟩ := i3 n2 g (by omega)
          rw [i4]
          exact ⟨_, rfl⟩

/-- The law LexerErrors, plain. -/
theorem scan_bad_cut {s : List UInt8} {a e : Nat} (hl : s.length ≤ 300) (h : Lex.scan s = .bad a e) :
    a < s.length ∧ (∃ ts, Lex.scan (s.take a) = .toks ts) ∧ Lex.scan (s ++ [32]) = .bad a e := by
  unfold Lex.scan at h
  rw [if_neg (by omega)] at h
  obtain ⟨_, h2, h3⟩ := bad_cut s.length s.length s a e (Nat.le_refl _) (Lex.skip_le _ _) h
  rw [Nat.sub_self, Nat.sub_zero] at h3
  refine ⟨h2, ?_, ?_⟩
  · unfold Lex.scan
    have : (s.take a).length = min a s.length := List.length_take
    rw [if_neg (by omega)]
    exact h3 _ _ (Lex.skip_le _ _)
  · unfold Lex.scan
    have h5 : (s ++ [32]).length = s.length + 1 := by simp
    rw [if_neg (by omega), h5]
    have h6 := Lex.skip_le false s
    exact bad_ext (x := 32) (by decide) [] s.length s.length s a e (Nat.le_refl _) h6 h (s.length + 1) (by simp; omega)
end Go.Proofs.YtlgfickhkejdjaaGreatDoor

namespace Go.Proofs.YtlgfickhkejdjaaGreatDoor

def dig (k : Nat) : UInt8 := UInt8.ofNat (48 + k % 10)
def dec (n : Nat) : List UInt8 := if _h : n < 10 then [dig n] else dec (n / 10) ++ [dig n]
termination_by n
decreasing_by omega

theorem dig_nat (k : Nat) : (dig k).toNat = 48 + k % 10 := by
  unfold dig
  rw [UInt8.toNat_ofNat']
  omega
theorem dig_digit (k : Nat) : Lex.digit (dig k) = true := by
  unfold Lex.digit
  rw [dig_nat]
  simp
  omega
theorem dec_small {n : Nat} (h : n < 10) : dec n = [dig n] := by unfold dec; rw [dif_pos h]
theorem dec_big {n : Nat} (h : ¬ n < 10) : dec n = dec (n / 10) ++ [dig n] := by rw [dec, dif_neg h]

theorem dec_all : ∀ n, ∀ c ∈ dec n, Lex.digit c = true := by
  intro n
  induction n using Nat.strongRecOn with
  | ind n ih =>
    by_cases h : n < 10
    · rw [dec_small h]; simp [dig_digit]
    · rw [dec_big h]
      intro c hc
      rcases List.mem_append.1 hc with h1 | h1
      · exact ih (n / 10) (by omega) c h1
      · rw [List.mem_singleton] at h1; rw [h1]; exact dig_digit n
theorem dec_ne : ∀ n, dec n ≠ [] := by
  intro n
  by_cases h : n < 10
  · rw [dec_small h]; simp
  · rw [dec_big h]; simp
theorem dec_value : ∀ n, Lex.value (dec n) = n := by
  intro n
  induction n using Nat.strongRecOn with
  | ind n ih =>
    by_cases h : n < 10
    · rw [dec_small h]
      show 10 * 0 + ((dig n).toNat - 48) = n
      rw [dig_nat]; omega
    · rw [dec_big h, Lex.value_snoc, ih (n / 10) (by omega), dig_nat]; omega
theorem dec_head : ∀ n, 0 < n → ((dec n).headD 0).toNat ≠ 48 := by
  intro n
  induction n using Nat.strongRecOn with
  | ind n ih =>
    intro hn
    by_cases h : n < 10
    · rw [dec_small h, List.headD_cons, dig_nat]; omega
    · rw [dec_big h]
      have h1 := ih (n / 10) (by omega) (by omega)
      have h2 := dec_ne (n / 10)
      cases hd : dec (n / 10) with
      | nil => exact absurd hd h2
      | cons a l => rw [hd] at h1; exact h1
theorem dec_len : ∀ k n, n < 10 ^ (k + 1) → (dec n).length ≤ k + 1 := by
  intro k
  induction k with
  | zero => intro n h; rw [dec_small (by omega)]; simp
  | succ k ih =>
    intro n h
    by_cases h1 : n < 10
    · rw [dec_small h1]; simp
    · rw [dec_big h1, List.length_append, List.length_singleton]
      have := ih (n / 10) (by rw [Nat.pow_succ] at h; omega)
      omega

theorem digit_solid {a : UInt8} (h : Lex.digit a = true) : Lex.space a = false ∧ ¬ a.toNat = 35 := by
  revert h; revert a; apply all_bytes; decide +kernel
theorem takeWhile_all_cons {p : UInt8 → Bool} {x : UInt8} (hx : p x = false) : ∀ l : List UInt8, (∀ c ∈ l, p c = true) → (l ++ [x]).takeWhile p = l
  | [], _ => by simp [hx]
  | a :: l, h => by
    rw [List.cons_append, List.takeWhile_cons, if_pos (h a (by simp)), takeWhile_all_cons hx l (fun c hc => h c (by simp [hc]))]

/-- the token at digits and a semicolon -/
theorem next_dec (n : Nat) : Lex.next (dec n ++ [59]) = if 2305843009213693951 < n then .bad 2 else .tok 1 (dec n) n := by
  have ha := dec_all n
  have hne := dec_ne n
  have hv := dec_value n
  have hh := dec_head n
  have h0 : n = 0 → (dec n).length = 1 := fun h => by subst h; rw [dec_small (by omega)]; rfl
  have hhead : Lex.digit ((dec n ++ [59]).headD 0) = true := by
    cases hd : dec n with
    | nil => exact absurd hd hne
    | cons a l => rw [hd] at ha; exact ha a (by simp)
  have hlet : Lex.letter ((dec n ++ [59]).headD 0) = false := by
    revert hhead
    generalize (dec n ++ [59]).headD 0 = c
    revert c
    apply all_bytes
    decide +kernel
  unfold Lex.next
  rw [hlet, if_neg (by simp), if_pos hhead]
  unfold Lex.numberAt
  rw [takeWhile_all_cons (by decide) _ ha]
  have hd : (dec n ++ [59]).drop (dec n).length = [59] := by simp
  simp only [hd, hv]
  rw [if_neg (by decide)]
  have h2 : ¬ (1 < (dec n).length ∧ (dec n).headD 0 = 48) := by
    rintro ⟨h3, h4⟩
    by_cases hn : n = 0
    · rw [h0 hn] at h3; omega
    · apply hh (by omega)
      rw [h4]; rfl
  rw [if_neg h2]

theorem scan_dec (n : Nat) (hn : n < 100000000000000000000) : Lex.scan (32 :: (dec n ++ [59])) = if 2305843009213693951 < n then .bad 1 2 else .toks [⟨1, dec n, n, 1⟩, ⟨5, [59], 0, 1 + (dec n).length⟩, ⟨0, [], 0, 2 + (dec n).length⟩] := by
  have hl := dec_len 19 n (by omega)
  have hnx := next_dec n
  have hne := dec_ne n
  have ha := dec_all n
  unfold Lex.scan
  have hlen : (32 :: (dec n ++ [59])).length = (dec n).length + 2 := by simp
  rw [if_neg (by omega), hlen]
  have hsk : Lex.skip false (32 :: (dec n ++ [59])) = dec n ++ [59] := by
    rw [skip_f, if_pos (by decide)]
    cases hd : dec n with
    | nil => exact absurd hd hne
    | cons a l =>
      rw [hd] at ha
      have h1 := ha a (by simp)
      have h2 := digit_solid h1
      rw [List.cons_append, skip_f, if_neg (by simp [h2.1]), if_neg h2.2]
  rw [hsk]
  cases hd : dec n with
  | nil => exact absurd hd hne
  | cons a l =>
    rw [hd] at hnx
    by_cases hbig : 2305843009213693951 < n
    · rw [if_pos hbig] at hnx ⊢
      rw [List.cons_append] at hnx ⊢
      rw [Lex.scanF_bad hnx]
      congr 1
      simp only [List.length_cons, List.length_append]; simp
    · rw [if_neg hbig] at hnx ⊢
      rw [List.cons_append] at hnx ⊢
      have h1 := Lex.scanF_tok (n := (a :: l).length + 2) (f := (a :: l).length + 1) hnx []
      rw [Lex.pre_nil] at h1
      rw [h1]
      have h2 : (a :: (l ++ [59])).drop (a :: l).length = [59] := by rw [← List.cons_append]; simp
      rw [h2]
      have h3 : Lex.skip false [59] = [59] := by decide
      have h4 : Lex.next [59] = .tok 5 [59] 0 := by decide
      rw [h3]
      have h5 := Lex.scanF_tok (n := (a :: l).length + 2) (f := (a :: l).length) h4 []
      rw [Lex.pre_nil] at h5
      rw [h5]
      have h6 : Lex.skip false (([59] : List UInt8).drop ([59] : List UInt8).length) = [] := by decide
      rw [h6, Lex.scanF_nil]
      simp only [Lex.pre, List.nil_append, List.cons_append, List.length_cons, List.length_append, List.length_nil]
      simp
      omega
end Go.Proofs.YtlgfickhkejdjaaGreatDoor
