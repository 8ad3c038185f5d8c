/-
  How the tokens of a text change when the text goes on behind a space, or ends before an error (no program in sight).
-/
import Derived.Test.YthbipapihdppmaaDoorLexChain
namespace Go.Proofs.YthbipapihdppmaaDoor

theorem space_word {x : UInt8} (h : Lex.space x = true) : Lex.wordc x = false := by
  revert h; revert x; apply all_bytes; decide +kernel
theorem space_digit {x : UInt8} (h : Lex.space x = true) : Lex.digit x = false := by
  revert h; revert x; apply all_bytes; decide +kernel
theorem space_tail {x : UInt8} (h : Lex.space x = true) : Lex.tailc x = false := by
  revert h; revert x; apply all_bytes; decide +kernel
theorem space_sym {c x : UInt8} (h : Lex.space x = true) : Lex.symbols.contains [c, x] = false := by
  rw [Bool.eq_false_iff]
  intro hc
  rw [List.contains_iff_mem] at hc
  have hall : ∀ l ∈ Lex.symbols, ∀ y ∈ l, Lex.space y = false := by decide +kernel
  have := hall _ hc x (by simp)
  rw [h] at this
  cases this

theorem takeWhile_ext {p : UInt8 → Bool} {x : UInt8} (hx : p x = false) (m : List UInt8) : ∀ l : List UInt8, (l ++ x :: m).takeWhile p = l.takeWhile p
  | [] => by simp [hx]
  | a :: l => by
    rw [List.cons_append, List.takeWhile_cons, List.takeWhile_cons]
    by_cases h : p a = true
    · rw [if_pos h, if_pos h, takeWhile_ext hx m l]
    · rw [if_neg h, if_neg h]

/-- A token does not change where a space follows the text. -/
theorem next_ext {x : UInt8} (hx : Lex.space x = true) (m : List UInt8) (c : UInt8) (r : List UInt8) : Lex.next (c :: r ++ x :: m) = Lex.next (c :: r) := by
  unfold Lex.next
  rw [List.cons_append, List.headD_cons, List.headD_cons, ← List.cons_append]
  by_cases h1 : Lex.letter c = true
  · rw [if_pos h1, if_pos h1]
    unfold Lex.nameAt
    rw [takeWhile_ext (space_word hx)]
  · rw [if_neg h1, if_neg h1]
    by_cases h2 : Lex.digit c = true
    · rw [if_pos h2, if_pos h2]
      unfold Lex.numberAt
      rw [takeWhile_ext (space_digit hx)]
      have hle := Lex.takeWhile_le Lex.digit (c :: r)
      generalize List.takeWhile Lex.digit (c :: r) = T at hle ⊢
      have : ((c :: r ++ x :: m).drop T.length).head?.any Lex.tailc = ((c :: r).drop T.length).head?.any Lex.tailc := by
        rw [List.drop_append_of_le_length hle]
        cases (c :: r).drop T.length with
        | nil => simp [space_tail hx]
        | cons a b => rfl
      simp only [this]
    · rw [if_neg h2, if_neg h2]
      unfold Lex.symbolAt
      cases r with
      | nil =>
        have h3 : (([c] : List UInt8) ++ x :: m).take 2 = [c, x] := rfl
        have h4 : (([c] : List UInt8) ++ x :: m).take 1 = [c] := rfl
        have h5 : ([c] : List UInt8).take 1 = [c] := rfl
        have h6 : ¬ (2 ≤ (([c] : List UInt8) ++ x :: m).length ∧ (false = true)) := fun h => by cases h.2
        have h7 : ¬ (2 ≤ ([c] : List UInt8).length ∧ Lex.symbols.contains (([c] : List UInt8).take 2) = true) := fun h => by simp at h
        rw [h3, space_sym hx, if_neg h6, if_neg h7, h4, h5]
      | cons b r =>
        have h3 : (c :: b :: r ++ x :: m).take 2 = (c :: b :: r).take 2 := rfl
        have h4 : (c :: b :: r ++ x :: m).take 1 = (c :: b :: r).take 1 := rfl
        rw [h3, h4]
        have h5 : 2 ≤ (c :: b :: r ++ x :: m).length := by simp
        have h6 : 2 ≤ (c :: b :: r).length := by simp
        simp only [h5, h6, true_and]

/-- skip, where something is left -/
theorem skip_ext (m : List UInt8) : ∀ (b : Bool) (l : List UInt8), Lex.skip b l ≠ [] → Lex.skip b (l ++ m) = Lex.skip b l ++ m
  | true, [], h => absurd rfl h
  | false, [], h => absurd rfl h
  | true, c :: r, h => by
    rw [skip_t] at h
    rw [List.cons_append, skip_t, skip_t]
    split
    · rename_i h1; rw [if_pos h1] at h; exact skip_ext m false r h
    · rename_i h1; rw [if_neg h1] at h; exact skip_ext m true r h
  | false, c :: r, h => by
    rw [skip_f] at h
    rw [List.cons_append, skip_f, skip_f]
    split
    · rename_i h1; rw [if_pos h1] at h; exact skip_ext m false r h
    · rename_i h1
      rw [if_neg h1] at h
      split
      · rename_i h2; rw [if_pos h2] at h; exact skip_ext m true r h
      · rfl
/-- skip, where nothing is left ahead of a line feed -/
theorem skip_line (m : List UInt8) : ∀ (b : Bool) (l : List UInt8), Lex.skip b l = [] → Lex.skip b (l ++ 10 :: m) = Lex.skip false m
  | true, [], _ => by rw [List.nil_append, skip_t]; rfl
  | false, [], _ => by rw [List.nil_append, skip_f]; rfl
  | true, c :: r, h => by
    rw [skip_t] at h
    rw [List.cons_append, skip_t]
    split
    · rename_i h1; rw [if_pos h1] at h; exact skip_line m false r h
    · rename_i h1; rw [if_neg h1] at h; exact skip_line m true r h
  | false, c :: r, h => by
    rw [skip_f] at h
    rw [List.cons_append, skip_f]
    split
    · rename_i h1; rw [if_pos h1] at h; exact skip_line m false r h
    · rename_i h1
      rw [if_neg h1] at h
      split
      · rename_i h2; rw [if_pos h2] at h; exact skip_line m true r h
      · rename_i h2; rw [if_neg h2] at h; cases h

theorem scanF_fuel (n : Nat) : ∀ (f g : Nat) (l : List UInt8), l.length ≤ f → l.length ≤ g → Lex.scanF n f l = Lex.scanF n g l
  | f, g, [], _, _ => by rw [Lex.scanF_nil, Lex.scanF_nil]
  | 0, _, _ :: _, h, _ => by simp at h
  | _, 0, _ :: _, _, h => by simp at h
  | f + 1, g + 1, c :: r, hf, hg => by
    cases hn : Lex.next (c :: r) with
    | bad e => rw [Lex.scanF_bad hn, Lex.scanF_bad hn]
    | tok k t v =>
      have h1 := Lex.scanF_tok (n := n) (f := f) hn []
      have h2 := Lex.scanF_tok (n := n) (f := g) hn []
      rw [Lex.pre_nil] at h1 h2
      rw [h1, h2]
      have hp := (Lex.next_text hn).2.1
      have hle := Lex.skip_le false ((c :: r).drop t.length)
      rw [List.length_drop] at hle
      rw [List.length_cons] at hf hg hle
      rw [scanF_fuel n f g _ (by omega) (by omega)]

/-- An error stays where it is if the text goes on behind a space. -/
theorem bad_ext {x : UInt8} (hx : Lex.space x = true) (m : List UInt8) (n : Nat) : ∀ (f : Nat) (l : List UInt8) (a e : Nat), l.length ≤ n → (Lex.skip false l).length ≤ f → Lex.scanF n f (Lex.skip false l) = .bad a e →
    ∀ g, (Lex.skip false l).length + 1 + m.length ≤ g → Lex.scanF (n + 1 + m.length) g (Lex.skip false (l ++ x :: m)) = .bad a e := by
  intro f
  induction f with
  | zero =>
    intro l a e hn hf h g hg
    have : Lex.skip false l = [] := List.eq_nil_of_length_eq_zero (by omega)
    rw [this, Lex.scanF_nil] at h
    cases h
  | succ f ih =>
    intro l a e hn hf h g hg
    have hle := Lex.skip_le false l
    cases hR : Lex.skip false l with
    | nil => rw [hR, Lex.scanF_nil] at h; cases h
    | cons c r =>
      have hne : Lex.skip false l ≠ [] := by rw [hR]; simp
      rw [skip_ext (x :: m) false l hne, hR]
      rw [hR] at h hf hg hle
      obtain ⟨g, rfl⟩ : ∃ k, g = k + 1 := ⟨g - 1, by omega⟩
      rw [List.length_cons] at hf hg hle
      cases hN : Lex.next (c :: r) with
      | bad e2 =>
        rw [Lex.scanF_bad hN] at h
        have hN2 := next_ext hx m c r
        rw [hN] at hN2
        rw [List.cons_append] at hN2 ⊢
        rw [Lex.scanF_bad hN2]
        cases h
        congr 1
        simp only [List.length_cons, List.length_append]
        omega
      | tok k t v =>
        have hN2 := next_ext hx m c r
        rw [hN] at hN2
        have h1 := Lex.scanF_tok (n := n) (f := f) hN []
        rw [Lex.pre_nil, h] at h1
        rw [List.cons_append] at hN2 ⊢
        have h2 := Lex.scanF_tok (n := n + 1 + m.length) (f := g) hN2 []
        rw [Lex.pre_nil] at h2
        rw [h2]
        obtain ⟨_, hp, hlt⟩ := Lex.next_text hN
        have hdl : ((c :: r).drop t.length).length = (c :: r).length - t.length := List.length_drop
        have hs2 := Lex.skip_le false ((c :: r).drop t.length)
        cases hs : Lex.scanF n f (Lex.skip false ((c :: r).drop t.length)) with
        | toks us => rw [hs] at h1; cases h1
        | bad a2 e2 =>
          rw [hs] at h1
          cases h1
          have hd : (c :: (r ++ x :: m)).drop t.length = (c :: r).drop t.length ++ x :: m := by
            rw [← List.cons_append, List.drop_append_of_le_length hlt]
          rw [hd]
          rw [List.length_cons] at hdl hlt
          rw [ih _ a e (by omega) (by omega) hs g (by omega)]
          rfl
/-- What is skipped, alone. -/
theorem skip_gone : ∀ (b : Bool) (l : List UInt8), Lex.skip b (l.take (l.length - (Lex.skip b l).length)) = []
  | true, [] => rfl
  | false, [] => rfl
  | true, c :: r => by
    have l1 := Lex.skip_le false r
    have l2 := Lex.skip_le true r
    rw [skip_t]
    by_cases h : c.toNat = 10
    · rw [if_pos h, List.length_cons, show r.length + 1 - (Lex.skip false r).length = (r.length - (Lex.skip false r).length) + 1 by omega, List.take_succ_cons, skip_t, if_pos h]
      exact skip_gone false r
    · rw [if_neg h, List.length_cons, show r.length + 1 - (Lex.skip true r).length = (r.length - (Lex.skip true r).length) + 1 by omega, List.take_succ_cons, skip_t, if_neg h]
      exact skip_gone true r
  | false, c :: r => by
    have l1 := Lex.skip_le false r
    have l2 := Lex.skip_le true r
    rw [skip_f]
    by_cases h : Lex.space c = true
    · rw [if_pos h, List.length_cons, show r.length + 1 - (Lex.skip false r).length = (r.length - (Lex.skip false r).length) + 1 by omega, List.take_succ_cons, skip_f, if_pos h]
      exact skip_gone false r
    · rw [if_neg h]
      by_cases h2 : c.toNat = 35
      · rw [if_pos h2, List.length_cons, show r.length + 1 - (Lex.skip true r).length = (r.length - (Lex.skip true r).length) + 1 by omega, List.take_succ_cons, skip_f, if_neg h, if_pos h2]
        exact skip_gone true r
      · rw [if_neg h2, Nat.sub_self, List.take_zero]; rfl
/-- What is skipped, and a part of what is left. -/
theorem skip_take (k : Nat) : ∀ (b : Bool) (l : List UInt8), Lex.skip b l ≠ [] → Lex.skip b (l.take (l.length - (Lex.skip b l).length + (k + 1))) = (Lex.skip b l).take (k + 1)
  | true, [], h => absurd rfl h
  | false, [], h => absurd rfl h
  | true, c :: r, hn => by
    have l1 := Lex.skip_le false r
    have l2 := Lex.skip_le true r
    rw [skip_t] at hn ⊢
    by_cases h : c.toNat = 10
    · rw [if_pos h] at hn ⊢
      rw [List.length_cons, show r.length + 1 - (Lex.skip false r).length + (k + 1) = (r.length - (Lex.skip false r).length + (k + 1)) + 1 by omega, List.take_succ_cons, skip_t, if_pos h]
      exact skip_take k false r hn
    · rw [if_neg h] at hn ⊢
      rw [List.length_cons, show r.length + 1 - (Lex.skip true r).length + (k + 1) = (r.length - (Lex.skip true r).length + (k + 1)) + 1 by omega, List.take_succ_cons, skip_t, if_neg h]
      exact skip_take k true r hn
  | false, c :: r, hn => by
    have l1 := Lex.skip_le false r
    have l2 := Lex.skip_le true r
    rw [skip_f] at hn ⊢
    by_cases h : Lex.space c = true
    · rw [if_pos h] at hn ⊢
      rw [List.length_cons, show r.length + 1 - (Lex.skip false r).length + (k + 1) = (r.length - (Lex.skip false r).length + (k + 1)) + 1 by omega, List.take_succ_cons, skip_f, if_pos h]
      exact skip_take k false r hn
    · rw [if_neg h] at hn ⊢
      by_cases h2 : c.toNat = 35
      · rw [if_pos h2] at hn ⊢
        rw [List.length_cons, show r.length + 1 - (Lex.skip true r).length + (k + 1) = (r.length - (Lex.skip true r).length + (k + 1)) + 1 by omega, List.take_succ_cons, skip_f, if_neg h, if_pos h2]
        exact skip_take k true r hn
      · rw [if_neg h2, Nat.sub_self, Nat.zero_add, List.take_succ_cons, skip_f, if_neg h, if_neg h2]

theorem takeWhile_cut {p : UInt8 → Bool} : ∀ (l : List UInt8) (j : Nat), (l.take ((l.takeWhile p).length + j)).takeWhile p = l.takeWhile p
  | [], j => by simp
  | a :: l, j => by
    by_cases h : p a = true
    · rw [List.takeWhile_cons, if_pos h, List.length_cons, show (l.takeWhile p).length + 1 + j = ((l.takeWhile p).length + j) + 1 by omega, List.take_succ_cons, List.takeWhile_cons, if_pos h, takeWhile_cut l j]
    · rw [List.takeWhile_cons, if_neg h, List.length_nil]
      cases j with
      | zero => rfl
      | succ j => rw [Nat.zero_add, List.take_succ_cons, List.takeWhile_cons, if_neg h]

/-- A token does not change where the text ends behind it. -/
theorem next_cut {c : UInt8} {r : List UInt8} {k : Nat} {t : List UInt8} {v : Nat} (j : Nat) (h : Lex.next (c :: r) = .tok k t v) : Lex.next ((c :: r).take (t.length + j)) = .tok k t v := by
  obtain ⟨_, hp, _⟩ := Lex.next_text h
  have hd : ((c :: r).take (t.length + j)).headD 0 = c := by
    rw [show t.length + j = (t.length - 1 + j) + 1 by omega, List.take_succ_cons, List.headD_cons]
  unfold Lex.next at h ⊢
  rw [hd]
  rw [List.headD_cons] at h
  by_cases h1 : Lex.letter c = true
  · rw [if_pos h1] at h ⊢
    unfold Lex.nameAt at h ⊢
    have ht : t = (c :: r).takeWhile Lex.wordc := by
      generalize (c :: r).takeWhile Lex.wordc = T at h
      simp only at h
      split at h
      · cases h
      · split at h
        · cases h; rfl
        · split at h <;> (cases h; rfl)
    have hc := takeWhile_cut (p := Lex.wordc) (c :: r) j
    rw [← ht] at hc h
    rw [hc]
    exact h
  · rw [if_neg h1] at h ⊢
    by_cases h2 : Lex.digit c = true
    · rw [if_pos h2] at h ⊢
      unfold Lex.numberAt at h ⊢
      have ht : t = (c :: r).takeWhile Lex.digit := by
        generalize (c :: r).takeWhile Lex.digit = T at h
        simp only at h
        split at h
        · cases h
        · split at h
          · cases h
          · split at h
            · cases h
            · cases h; rfl
      have hc := takeWhile_cut (p := Lex.digit) (c :: r) j
      rw [← ht] at hc h
      rw [hc]
      simp only at h ⊢
      by_cases h3 : ((c :: r).drop t.length).head?.any Lex.tailc = true
      · rw [if_pos h3] at h; cases h
      · rw [if_neg h3] at h
        have h4 : ¬ (((c :: r).take (t.length + j)).drop t.length).head?.any Lex.tailc = true := by
          rw [List.drop_take, Nat.add_sub_cancel_left]
          intro h5
          apply h3
          revert h5
          cases (c :: r).drop t.length with
          | nil => simp
          | cons a b => cases j <;> simp
        rw [if_neg h4]
        exact h
    · rw [if_neg h2] at h ⊢
      unfold Lex.symbolAt at h ⊢
      by_cases h3 : 2 ≤ (c :: r).length ∧ Lex.symbols.contains ((c :: r).take 2) = true
      · rw [if_pos h3] at h
        have ht : t.length = 2 := by cases h; rw [List.length_take]; omega
        have h4 : ((c :: r).take (t.length + j)).take 2 = (c :: r).take 2 := by rw [List.take_take]; congr 1; omega
        have h5 : 2 ≤ ((c :: r).take (t.length + j)).length := by rw [List.length_take]; omega
        rw [h4, if_pos ⟨h5, h3.2⟩]
        exact h
      · rw [if_neg h3] at h
        have h4 : ((c :: r).take (t.length + j)).take 1 = (c :: r).take 1 := by rw [List.take_take]; congr 1; omega
        have h5 : ¬ (2 ≤ ((c :: r).take (t.length + j)).length ∧ Lex.symbols.contains (((c :: r).take (t.length + j)).take 2) = true) := by
          intro ⟨h6, h7⟩
          apply h3
          rw [List.length_take] at h6
          rw [List.take_take, show min 2 (t.length + j) = 2 by omega] at h7
          exact ⟨by omega, h7⟩
        rw [if_neg h5, h4]
        exact h

/-- The text ahead of an error can be scanned. -/
theorem bad_cut (n : Nat) : ∀ (f : Nat) (l : List UInt8) (a e : Nat), l.length ≤ n → (Lex.skip false l).length ≤ f → Lex.scanF n f (Lex.skip false l) = .bad a e →
    n - l.length ≤ a ∧ a < n ∧ ∀ n2 g, (Lex.skip false (l.take (a - (n - l.length)))).length ≤ g → ∃ ts, Lex.scanF n2 g (Lex.skip false (l.take (a - (n - l.length)))) = .toks ts := by
  intro f
  induction f with
  | zero =>
    intro l a e hn hf h
    have : Lex.skip false l = [] := List.eq_nil_of_length_eq_zero (by omega)
    rw [this, Lex.scanF_nil] at h
    cases h
  | succ f ih =>
    intro l a e hn hf h
    have hle := Lex.skip_le false l
    have hgone := skip_gone false l
    have htake := fun k => skip_take k false l
    cases hR : Lex.skip false l with
    | nil => rw [hR, Lex.scanF_nil] at h; cases h
    | cons c r =>
      rw [hR] at h hf hle hgone
      simp only [hR] at htake
      cases hN : Lex.next (c :: r) with
      | bad e2 =>
        rw [Lex.scanF_bad hN] at h
        cases h
        rw [List.length_cons] at hf hle hgone ⊢
        refine ⟨by omega, by omega, fun n2 g _ => ?_⟩
        rw [show n - (r.length + 1) - (n - l.length) = l.length - (r.length + 1) by omega, hgone]
        exact ⟨_, Lex.scanF_nil _ _⟩
      | tok k t v =>
        have h1 := Lex.scanF_tok (n := n) (f := f) hN []
        rw [Lex.pre_nil, h] at h1
        obtain ⟨_, hp, hlt⟩ := Lex.next_text hN
        have hdl : ((c :: r).drop t.length).length = (c :: r).length - t.length := List.length_drop
        have hs2 := Lex.skip_le false ((c :: r).drop t.length)
        cases hs : Lex.scanF n f (Lex.skip false ((c :: r).drop t.length)) with
        | toks us => rw [hs] at h1; cases h1
        | bad a2 e2 =>
          rw [hs] at h1
          cases h1
          obtain ⟨i1, i2, i3⟩ := ih _ a e (by omega) (by omega) hs
          rw [hdl] at i1 i3
          have hc : n - l.length ≤ a := by omega
          refine ⟨hc, i2, fun n2 g hg => ?_⟩
          have e1 : a - (n - l.length) = l.length - (c :: r).length + ((t.length - 1 + (a - (n - ((c :: r).length - t.length)))) + 1) := by omega
          have e2 : (t.length - 1 + (a - (n - ((c :: r).length - t.length)))) + 1 = t.length + (a - (n - ((c :: r).length - t.length))) := by omega
          rw [e1, htake _ (by simp), e2] at hg ⊢
          have hN2 := next_cut (a - (n - ((c :: r).length - t.length))) hN
          have hcons : (c :: r).take (t.length + (a - (n - ((c :: r).length - t.length)))) = c :: r.take (t.length + (a - (n - ((c :: r).length - t.length))) - 1) := by
            rw [show t.length + (a - (n - ((c :: r).length - t.length))) = (t.length + (a - (n - ((c :: r).length - t.length))) - 1) + 1 by omega, List.take_succ_cons]
            rfl
          have hdr : ((c :: r).take (t.length + (a - (n - ((c :: r).length - t.length))))).drop t.length = ((c :: r).drop t.length).take (a - (n - ((c :: r).length - t.length))) := by
            rw [List.drop_take, Nat.add_sub_cancel_left]
          rw [hcons] at hN2 hg hdr ⊢
          obtain ⟨g, rfl⟩ : ∃ k, g = k + 1 := ⟨g - 1, by rw [List.length_cons] at hg; omega⟩
          have h2 := Lex.scanF_tok (n := n2) (f := g) hN2 []
          rw [Lex.pre_nil, hdr] at h2
          rw [h2]
          have hlen := congrArg List.length hdr
          rw [List.length_drop] at hlen
          have hs3 := Lex.skip_le false (((c :: r).drop t.length).take (a - (n - ((c :: r).length - t.length))))
          obtain ⟨ts, i4⟩ := i3 n2 g (by omega)
          rw [i4]
          exact ⟨_, rfl⟩

/-- The law LexerErrors, plain. -/
theorem scan_bad_cut {s : List UInt8} {a e : Nat} (hl : s.length ≤ 300) (h : Lex.scan s = .bad a e) :
    a < s.length ∧ (∃ ts, Lex.scan (s.take a) = .toks ts) ∧ Lex.scan (s ++ [32]) = .bad a e := by
  unfold Lex.scan at h
  rw [if_neg (by omega)] at h
  obtain ⟨_, h2, h3⟩ := bad_cut s.length s.length s a e (Nat.le_refl _) (Lex.skip_le _ _) h
  rw [Nat.sub_self, Nat.sub_zero] at h3
  refine ⟨h2, ?_, ?_⟩
  · unfold Lex.scan
    have : (s.take a).length = min a s.length := List.length_take
    rw [if_neg (by omega)]
    exact h3 _ _ (Lex.skip_le _ _)
  · unfold Lex.scan
    have h5 : (s ++ [32]).length = s.length + 1 := by simp
    rw [if_neg (by omega), h5]
    have h6 := Lex.skip_le false s
    exact bad_ext (x := 32) (by decide) [] s.length s.length s a e (Nat.le_refl _) h6 h (s.length + 1) (by simp; omega)
end Go.Proofs.YthbipapihdppmaaDoor
