/-
  The tokens of a text are a chain (no program in sight but for a lemma on bytes).
-/
import Derived.Test.YthbipapihdppmaaDoorLexGap
namespace Go.Proofs.YthbipapihdppmaaDoor

theorem next_kind {l : List UInt8} {k : Nat} {t : List UInt8} {v : Nat} (h : Lex.next l = .tok k t v) : k ≠ 0 := by
  unfold Lex.next at h
  by_cases hl : Lex.letter (l.headD 0) = true
  · rw [if_pos hl] at h
    unfold Lex.nameAt at h
    simp only at h
    split at h
    · cases h
    · split at h
      · cases h; omega
      · split at h <;> (cases h; omega)
  · rw [if_neg hl] at h
    by_cases hl : Lex.digit (l.headD 0) = true
    · rw [if_pos hl] at h
      unfold Lex.numberAt at h
      simp only at h
      split at h
      · cases h
      · split at h
        · cases h
        · split at h
          · cases h
          · cases h; omega
    · rw [if_neg hl] at h
      unfold Lex.symbolAt at h
      split at h
      · cases h; omega
      · split at h
        · cases h; omega
        · cases h

theorem drop_skip (l : List UInt8) (a : Nat) (ha : a ≤ l.length) : Lex.skip false (l.drop a) = l.drop (l.length - (Lex.skip false (l.drop a)).length) := by
  have h := Lex.skip_drop false (l.drop a)
  have hle := Lex.skip_le false (l.drop a)
  rw [List.length_drop] at h hle
  conv => lhs; rw [h]
  rw [List.drop_drop]
  congr 1
  omega

theorem chain_scanF (l : List UInt8) : ∀ (f a : Nat) (ts : List Lex.Tok), a ≤ l.length → Lex.scanF l.length f (Lex.skip false (l.drop a)) = .toks ts → Chain l l.length a ts := by
  intro f
  induction f with
  | zero =>
    intro a ts ha h
    have hgap := (gap_skip (l.drop a)).1
    cases hR : Lex.skip false (l.drop a) with
    | nil =>
      rw [hR] at h hgap
      cases h
      rw [List.length_drop, List.length_nil, Nat.sub_zero] at hgap
      exact ⟨rfl, ha, hgap⟩
    | cons c r => rw [hR] at h; cases h
  | succ f ih =>
    intro a ts ha h
    have hgap := (gap_skip (l.drop a)).1
    have hd := drop_skip l a ha
    have hle := Lex.skip_le false (l.drop a)
    cases hR : Lex.skip false (l.drop a) with
    | nil =>
      rw [hR] at h hgap
      cases h
      rw [List.length_drop, List.length_nil, Nat.sub_zero] at hgap
      exact ⟨rfl, ha, hgap⟩
    | cons c r =>
      rw [hR] at h hgap hd hle
      rw [List.length_drop] at hgap hle
      cases hn : Lex.next (c :: r) with
      | bad e => rw [Lex.scanF_bad hn] at h; cases h
      | tok kd tx vl =>
        obtain ⟨htx, hp, hlt⟩ := Lex.next_text hn
        have hk := next_kind hn
        have hs := Lex.scanF_tok (n := l.length) (f := f) hn []
        rw [Lex.pre_nil, h, hd] at hs
        have hrl : (c :: r).length ≤ l.length := by omega
        have hlen : (l.drop (l.length - (c :: r).length)).length = (c :: r).length := by rw [List.length_drop]; omega
        rw [List.drop_drop] at hs
        rw [hlen] at hs
        cases hs2 : Lex.scanF l.length f (Lex.skip false (l.drop (l.length - (c :: r).length + tx.length))) with
        | bad a e => rw [hs2] at hs; cases hs
        | toks us =>
          rw [hs2] at hs
          cases hs
          have hc := ih (l.length - (c :: r).length + tx.length) us (by omega) hs2
          cases us with
          | nil => exact absurd hs2 (fun e => scanF_ne _ _ _ _ e rfl)
          | cons u us =>
            refine ⟨hk, ?_, by show a ≤ l.length - (c :: r).length; omega, by show l.length - (c :: r).length + tx.length ≤ l.length; omega, ?_, ?_, hc⟩
            · show tx ≠ []
              intro e
              rw [e] at hp
              simp at hp
            · show tx = (l.drop (l.length - (c :: r).length)).take tx.length
              rw [← hd]; exact htx
            · show gapB false ((l.drop a).take (l.length - (c :: r).length - a)) = true
              rw [show l.length - (c :: r).length - a = l.length - a - (c :: r).length by omega]
              exact hgap

theorem chain_scan {l : List UInt8} {ts : List Lex.Tok} (h : Lex.scan l = .toks ts) : Chain l l.length 0 ts := by
  unfold Lex.scan at h
  split at h
  · cases h
  · exact chain_scanF l _ 0 ts (Nat.zero_le _) (by rw [List.drop_zero]; exact h)
end Go.Proofs.YthbipapihdppmaaDoor
