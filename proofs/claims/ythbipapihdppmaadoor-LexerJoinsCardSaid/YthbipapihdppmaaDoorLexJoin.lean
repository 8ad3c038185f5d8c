/-
  The tokens of two texts with a line feed between them (no program in sight).
-/
import Derived.Test.YthbipapihdppmaaDoorLexLawScans
import Derived.Test.YthbipapihdppmaaDoorLexExt
namespace Go.Proofs.YthbipapihdppmaaDoor

/-- Tokens of a text that stands behind d bytes. -/
def shiftT (d : Nat) (t : Lex.Tok) : Lex.Tok := ⟨t.kind, t.text, t.val, t.pos + d⟩
def shiftR (d : Nat) : Lex.Res → Lex.Res
  | .bad a e => .bad (a + d) e
  | .toks l => .toks (l.map (shiftT d))
theorem scanF_shift (n d : Nat) : ∀ (f : Nat) (l : List UInt8), l.length ≤ n → l.length ≤ f → Lex.scanF (n + d) f l = shiftR d (Lex.scanF n f l)
  | f, [], _, _ => by rw [Lex.scanF_nil, Lex.scanF_nil]; rfl
  | 0, c :: r, _, h => by simp at h
  | f + 1, c :: r, hn, hf => by
    have he : n + d - (c :: r).length = n - (c :: r).length + d := by omega
    cases hN : Lex.next (c :: r) with
    | bad e => rw [Lex.scanF_bad hN, Lex.scanF_bad hN, he]; rfl
    | tok k t v =>
      have h1 := Lex.scanF_tok (n := n) (f := f) hN []
      have h2 := Lex.scanF_tok (n := n + d) (f := f) hN []
      rw [Lex.pre_nil] at h1 h2
      obtain ⟨_, hp, hlt⟩ := Lex.next_text hN
      have hle := Lex.skip_le false ((c :: r).drop t.length)
      rw [List.length_drop] at hle
      rw [List.length_cons] at hn hf
      simp only [List.length_cons] at hle
      rw [h1, h2, scanF_shift n d f _ (by omega) (by omega), he]
      cases Lex.scanF n f (Lex.skip false ((c :: r).drop t.length)) with
      | bad a e => rfl
      | toks us => rfl

/-- A line feed behind a text that can be scanned. -/
theorem toks_line (m : List UInt8) (n : Nat) : ∀ (f : Nat) (l : List UInt8) (ts : List Lex.Tok), l.length ≤ n → (Lex.skip false l).length ≤ f → Lex.scanF n f (Lex.skip false l) = .toks ts →
    ∀ g, (Lex.skip false l).length + 1 + m.length ≤ g → Lex.scanF (n + 1 + m.length) g (Lex.skip false (l ++ 10 :: m)) = Lex.pre ts.dropLast (Lex.scanF (n + 1 + m.length) m.length (Lex.skip false m)) := by
  intro f
  induction f with
  | zero =>
    intro l ts hn hf h g hg
    have : Lex.skip false l = [] := List.eq_nil_of_length_eq_zero (by omega)
    rw [this, Lex.scanF_nil] at h
    cases h
    rw [skip_line m false l this]
    rw [List.dropLast_singleton, Lex.pre_nil]
    have := Lex.skip_le false m
    exact scanF_fuel _ _ _ _ (by omega) this
  | succ f ih =>
    intro l ts hn hf h g hg
    have hle := Lex.skip_le false l
    cases hR : Lex.skip false l with
    | nil =>
      rw [hR, Lex.scanF_nil] at h
      cases h
      rw [skip_line m false l hR]
      rw [List.dropLast_singleton, Lex.pre_nil]
      have := Lex.skip_le false m
      exact scanF_fuel _ _ _ _ (by omega) this
    | cons c r =>
      have hne : Lex.skip false l ≠ [] := by rw [hR]; simp
      rw [skip_ext (10 :: m) false l hne, hR]
      rw [hR] at h hf hg hle
      obtain ⟨g, rfl⟩ : ∃ k, g = k + 1 := ⟨g - 1, by omega⟩
      rw [List.length_cons] at hf hg hle
      have hN2 := next_ext (x := 10) (by decide) m c r
      cases hN : Lex.next (c :: r) with
      | bad e2 => rw [Lex.scanF_bad hN] at h; cases h
      | tok k t v =>
        rw [hN] at hN2
        have h1 := Lex.scanF_tok (n := n) (f := f) hN []
        rw [Lex.pre_nil, h] at h1
        rw [List.cons_append] at hN2 ⊢
        have h2 := Lex.scanF_tok (n := n + 1 + m.length) (f := g) hN2 []
        rw [Lex.pre_nil] at h2
        rw [h2]
        obtain ⟨_, hp, hlt⟩ := Lex.next_text hN
        have hdl : ((c :: r).drop t.length).length = (c :: r).length - t.length := List.length_drop
        have hs2 := Lex.skip_le false ((c :: r).drop t.length)
        cases hs : Lex.scanF n f (Lex.skip false ((c :: r).drop t.length)) with
        | bad a2 e2 => rw [hs] at h1; cases h1
        | toks us =>
          rw [hs] at h1
          cases h1
          have hd : (c :: (r ++ 10 :: m)).drop t.length = (c :: r).drop t.length ++ 10 :: m := by
            rw [← List.cons_append, List.drop_append_of_le_length hlt]
          rw [hd]
          rw [List.length_cons] at hdl hlt
          rw [ih _ us (by omega) (by omega) hs g (by omega)]
          have hpos : n + 1 + m.length - (c :: (r ++ 10 :: m)).length = n - (c :: r).length := by
            simp only [List.length_cons, List.length_append]; omega
          rw [hpos]
          have hune := scanF_ne _ _ _ _ hs
          obtain ⟨u, us, rfl⟩ := List.exists_cons_of_ne_nil hune
          cases Lex.scanF (n + 1 + m.length) m.length (Lex.skip false m) with
          | bad a e => rfl
          | toks vs => rfl

/-- What the text a, a line feed and the text b yield. -/
theorem scan_join_bad {a b : List UInt8} {p e : Nat} (ha : a.length ≤ 300) (hb : b.length ≤ 300) (h : Lex.scan a = .bad p e) : Lex.scan (a ++ 10 :: b) = .bad p e := by
  unfold Lex.scan at h ⊢
  rw [if_neg (by omega)] at h
  have hl : (a ++ 10 :: b).length = a.length + 1 + b.length := by simp; omega
  rw [if_neg (by omega), hl]
  have h1 := Lex.skip_le false a
  exact bad_ext (x := 10) (by decide) b a.length a.length a p e (Nat.le_refl _) h1 h _ (by omega)
theorem scan_join {a b : List UInt8} {ts : List Lex.Tok} (ha : a.length ≤ 300) (hb : b.length ≤ 300) (h : Lex.scan a = .toks ts) : Lex.scan (a ++ 10 :: b) = Lex.pre ts.dropLast (shiftR (a.length + 1) (Lex.scan b)) := by
  unfold Lex.scan at h ⊢
  rw [if_neg (by omega)] at h
  have hl : (a ++ 10 :: b).length = a.length + 1 + b.length := by simp; omega
  rw [if_neg (by omega), if_neg (by omega), hl]
  have h1 := Lex.skip_le false a
  have h2 := Lex.skip_le false b
  rw [toks_line b a.length a.length a ts (Nat.le_refl _) h1 h _ (by omega)]
  rw [show a.length + 1 + b.length = b.length + (a.length + 1) by omega, scanF_shift b.length (a.length + 1) b.length _ h2 h2]

/-- The tokens without their offsets and without the end. -/
def bareL (ts : List Lex.Tok) : List Lex.Tok := (ts.filter (fun t => t.kind != 0)).map fun t => ⟨t.kind, t.text, t.val, 0⟩
theorem bareL_append (a b : List Lex.Tok) : bareL (a ++ b) = bareL a ++ bareL b := by unfold bareL; rw [List.filter_append, List.map_append]
theorem bareL_shift (d : Nat) (a : List Lex.Tok) : bareL (a.map (shiftT d)) = bareL a := by
  unfold bareL
  rw [List.filter_map, List.map_map]
  rfl
theorem scanF_last (n : Nat) : ∀ (f : Nat) (l : List UInt8) (ts : List Lex.Tok), Lex.scanF n f l = .toks ts → ts = ts.dropLast ++ [⟨0, [], 0, n⟩]
  | f, [], ts, h => by rw [Lex.scanF_nil] at h; cases h; rfl
  | 0, _ :: _, ts, h => by cases h
  | f + 1, c :: r, ts, h => by
    cases hn : Lex.next (c :: r) with
    | bad e => rw [Lex.scanF_bad hn] at h; cases h
    | tok k t v =>
      have h2 := Lex.scanF_tok (n := n) (f := f) hn []
      rw [Lex.pre_nil, h] at h2
      cases hs : Lex.scanF n f (Lex.skip false ((c :: r).drop t.length)) with
      | bad a e => rw [hs] at h2; cases h2
      | toks l =>
        have ih := scanF_last n f _ l hs
        have hne := scanF_ne n f _ l hs
        rw [hs] at h2; cases h2
        obtain ⟨u, us, rfl⟩ := List.exists_cons_of_ne_nil hne
        simp only [List.nil_append, List.cons_append, List.dropLast_cons_cons] at ih ⊢
        rw [← ih]
theorem scan_last {a : List UInt8} {ts : List Lex.Tok} (h : Lex.scan a = .toks ts) : ts = ts.dropLast ++ [⟨0, [], 0, a.length⟩] := by
  unfold Lex.scan at h
  split at h
  · cases h
  · exact scanF_last _ _ _ _ h
theorem bareL_last {a : List UInt8} {ts : List Lex.Tok} (h : Lex.scan a = .toks ts) : bareL ts.dropLast = bareL ts := by
  have h1 := scan_last h
  have h2 := congrArg bareL h1
  rw [bareL_append] at h2
  rw [h2]
  simp [bareL]
end Go.Proofs.YthbipapihdppmaaDoor
