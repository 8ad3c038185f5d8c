/-
  The law LexerScans, walked.
-/
import Derived.Test.YthbipapihdppmaaDoorLexAwake
namespace Go.Proofs.YthbipapihdppmaaDoor
open Go.RowKit

theorem scanF_ne (n : Nat) : ∀ (f : Nat) (l : List UInt8) (ts : List Lex.Tok), Lex.scanF n f l = .toks ts → ts ≠ []
  | f, [], ts, h => by rw [Lex.scanF_nil] at h; cases h; simp
  | 0, _ :: _, ts, h => by cases h
  | f + 1, c :: r, ts, h => by
    cases hn : Lex.next (c :: r) with
    | bad e => rw [Lex.scanF_bad hn] at h; cases h
    | tok k t v =>
      have h2 := Lex.scanF_tok (n := n) (f := f) hn []
      rw [Lex.pre_nil, h] at h2
      cases hs : Lex.scanF n f (Lex.skip false ((c :: r).drop t.length)) with
      | bad a e => rw [hs] at h2; cases h2
      | toks l => rw [hs] at h2; cases h2; simp
theorem scan_ne {l : List UInt8} {ts : List Lex.Tok} (h : Lex.scan l = .toks ts) : ts ≠ [] := by
  unfold Lex.scan at h
  split at h
  · cases h
  · exact scanF_ne _ _ _ _ h

theorem scanF_len (n : Nat) : ∀ (f : Nat) (l : List UInt8) (ts : List Lex.Tok), Lex.scanF n f l = .toks ts → ts.length ≤ l.length + 1
  | f, [], ts, h => by rw [Lex.scanF_nil] at h; cases h; simp
  | 0, _ :: _, ts, h => by cases h
  | f + 1, c :: r, ts, h => by
    cases hn : Lex.next (c :: r) with
    | bad e => rw [Lex.scanF_bad hn] at h; cases h
    | tok k t v =>
      have h2 := Lex.scanF_tok (n := n) (f := f) hn []
      rw [Lex.pre_nil, h] at h2
      have hle := Lex.skip_le false ((c :: r).drop t.length)
      rw [List.length_drop] at hle
      have hp := (Lex.next_text hn).2.1
      cases hs : Lex.scanF n f (Lex.skip false ((c :: r).drop t.length)) with
      | bad a e => rw [hs] at h2; cases h2
      | toks l =>
        have ih := scanF_len n f _ l hs
        rw [hs] at h2; cases h2
        simp only [List.nil_append, List.length_append, List.length_nil, List.length_cons] at hle ⊢
        omega
theorem scan_len {l : List UInt8} {ts : List Lex.Tok} (h : Lex.scan l = .toks ts) : ts.length ≤ 16385 := by
  unfold Lex.scan at h
  split at h
  · cases h
  · have h1 := scanF_len _ _ _ _ h
    have h2 := Lex.skip_le false l
    omega

theorem post_toks {s : ByteArray} {w w' : World} {e : Ending} {ts : List Lex.Tok} (hp : ScanPost s w e w') (h : Lex.scan s.data.toList = .toks ts) :
    ∃ g cap, e = .returned (.tuple #[.slice (some ⟨g, 0, none⟩) ts.length cap, .int .i64 0, .int .i64 0]) ∧ ToksAt w' g ts ∧ w.heap.size ≤ g ∧ g < w'.heap.size ∧ Below w.heap.size w w' := by
  rcases hp with ⟨a, er, hb, _⟩ | ⟨us, v, ht, rfl, hown, hbel⟩
  · rw [h] at hb; cases hb
  · rw [h] at ht; cases ht
    obtain ⟨g, cap, rfl, _, hta, h1, h2⟩ := toks_of_own hown (scan_ne h)
    exact ⟨g, cap, rfl, hta, h1, h2, hbel⟩
theorem post_bad {s : ByteArray} {w w' : World} {e : Ending} {a er : Nat} (hp : ScanPost s w e w') (h : Lex.scan s.data.toList = .bad a er) :
    e = .returned (.tuple #[.slice none 0 0, .int .i64 a, .int .i64 er]) ∧ Below w.heap.size w w' := by
  rcases hp with ⟨a', er', hb, rfl, hbel⟩ | ⟨us, v, ht, _⟩
  · rw [h] at hb; cases hb; exact ⟨rfl, hbel⟩
  · rw [h] at ht; cases ht

set_option maxRecDepth 100000 in
set_option maxHeartbeats 1000000 in
theorem law_scans (s : ByteArray) (w : World) (hE : LexEnv w) :
    Calls Tryd.prog 3 #[.string s] w fun e w' => e = .returned (.bool true) ∧ Below w.heap.size w w' := by
  have HE := Lib.hid hE
  clear hE
  have ha : ∀ w0, LexEnv w0 → Calls Tryd.prog 9 #[] w0 fun e w' => e = .returned (.bool true) ∧ Below w0.heap.size w0 w' := fun w0 h => awake_any w0 h
  have HA := Lib.hid ha
  clear ha
  by_cases h1 : 600 < s.size ∧ s.size ≤ 16384
  · obtain ⟨h2, h3⟩ := h1
    go_enter Tryd.func3, Tryd.ntmps3
    go_wp2_with fail
    refine (HA.out _ HE.out).mono ?_
    rintro e w1 ⟨rfl, hb1⟩
    go_wp2_with fail
    go_ret
    exact ⟨rfl, hb1⟩
  · by_cases h2 : 16394 < s.size
    · clear h1
      go_enter Tryd.func3, Tryd.ntmps3
      go_wp2_with fail
      refine (HA.out _ HE.out).mono ?_
      rintro e w1 ⟨rfl, hb1⟩
      go_wp2_with fail
      go_ret
      exact ⟨rfl, hb1⟩
    · have h3 : s.size ≤ 600 ∨ (600 < s.size ∧ 16384 < s.size) := by omega
      have hs : s.size ≤ 9223372036854775800 := by omega
      clear h1
      cases hsc : Lex.scan s.data.toList with
      | bad a er =>
        have HSC := Lib.hid hsc
        clear hsc
        rcases h3 with h3 | ⟨h3, h4⟩
        all_goals
          go_enter Tryd.func3, Tryd.ntmps3
          go_wp2_with fail
          refine (HA.out _ HE.out).mono ?_
          rintro e w1 ⟨rfl, hb1⟩
          go_wp2_with fail
          refine (scan_any s _ (HE.out.keep hb1) hs).mono ?_
          rintro e w2 hp2
          obtain ⟨rfl, hb2⟩ := post_bad hp2 HSC.out
          clear hp2
          go_wp2_with fail
          refine (scan_ref s _ hs).mono ?_
          rintro e w3 hp3
          obtain ⟨rfl, hb3⟩ := post_bad hp3 HSC.out
          clear hp3
          go_wp2_with fail
          refine (same_none _ _ _ _ _).mono ?_
          rintro e w4 ⟨rfl, rfl⟩
          go_wp2_with fail
          go_ret
          exact ⟨by simp, (hb1.trans (hb2.mono hb1.size)).trans (hb3.mono (Nat.le_trans hb1.size hb2.size))⟩
      | toks ts =>
        have hl := scan_len hsc
        have HSC := Lib.hid hsc
        clear hsc
        rcases h3 with h3 | ⟨h3, h4⟩
        all_goals
          go_enter Tryd.func3, Tryd.ntmps3
          go_wp2_with fail
          refine (HA.out _ HE.out).mono ?_
          rintro e w1 ⟨rfl, hb1⟩
          go_wp2_with fail
          refine (scan_any s _ (HE.out.keep hb1) hs).mono ?_
          rintro e w2 hp2
          obtain ⟨g1, cap1, rfl, ht1, hg1, hg2, hb2⟩ := post_toks hp2 HSC.out
          have HT1 := Lib.hid ht1
          clear hp2 ht1
          go_wp2_with fail
          refine (scan_ref s _ hs).mono ?_
          rintro e w3 hp3
          obtain ⟨g2, cap2, rfl, ht2, hg3, hg4, hb3⟩ := post_toks hp3 HSC.out
          have HT2 := Lib.hid ht2
          clear hp3 ht2
          go_wp2_with fail
          refine (same_any g1 g2 cap1 cap2 ts ts _ rfl (by omega) (HT1.out.keep hb3 hg2) HT2.out).mono ?_
          rintro e w4 ⟨rfl, hb4⟩
          have hd : decide (ts = ts) = true := by simp
          rw [hd]
          clear hd
          go_wp2_with fail
          go_ret
          exact ⟨by simp, ((hb1.trans (hb2.mono hb1.size)).trans (hb3.mono (Nat.le_trans hb1.size hb2.size))).trans (hb4.mono (Nat.le_trans hb1.size (Nat.le_trans hb2.size hb3.size)))⟩
end Go.Proofs.YthbipapihdppmaaDoor
