/-
  The law LexerTokens, walked.
-/
import Derived.Test.YthbipapihdppmaaDoorLexChain
namespace Go.Proofs.YthbipapihdppmaaDoor
open Go.RowKit

theorem scanF_badpos (n : Nat) : ∀ (f : Nat) (l : List UInt8) (a e : Nat), l.length ≤ f → Lex.scanF n f l = .bad a e → 0 < e
  | f, [], a, e, _, h => by rw [Lex.scanF_nil] at h; cases h
  | 0, c :: r, a, e, hl, h => by simp at hl
  | f + 1, c :: r, a, e, hl, h => by
    cases hn : Lex.next (c :: r) with
    | bad e2 => rw [Lex.scanF_bad hn] at h; cases h; exact Lex.next_bad hn
    | tok k t v =>
      have h2 := Lex.scanF_tok (n := n) (f := f) hn []
      rw [Lex.pre_nil, h] at h2
      have hp := (Lex.next_text hn).2.1
      have hle := Lex.skip_le false ((c :: r).drop t.length)
      rw [List.length_drop] at hle
      cases hs : Lex.scanF n f (Lex.skip false ((c :: r).drop t.length)) with
      | toks l2 => rw [hs] at h2; cases h2
      | bad a2 e2 =>
        rw [hs] at h2
        cases h2
        exact scanF_badpos n f _ _ _ (by rw [List.length_cons] at hl hle; omega) hs
theorem scan_badpos {l : List UInt8} {a e : Nat} (h : Lex.scan l = .bad a e) : 0 < e := by
  unfold Lex.scan at h
  split at h
  · cases h; omega
  · exact scanF_badpos _ _ _ _ _ (Lex.skip_le false l) h

theorem gap_at (s : ByteArray) (a p : Nat) (w : World) (hs : s.size ≤ 600) (h : gapB false ((s.data.toList.drop a).take (p - a)) = true) :
    Calls Tryd.prog 13 #[.string (s.extract a p)] w fun e w' => e = .returned (.bool true) ∧ w' = w := by
  have h1 := gap_any (s.extract a p) w (by rw [Lib.size_eq, Lib.extract_data, List.length_take, List.length_drop, ← Lib.size_eq]; omega)
  rw [Lib.extract_data, h] at h1
  exact h1.mono fun e w' ⟨a, b⟩ => ⟨a, b.symm⟩

set_option maxRecDepth 100000 in
set_option maxHeartbeats 1000000 in
theorem law_tokens (s : ByteArray) (w : World) (hE : LexEnv w) :
    Calls Tryd.prog 4 #[.string s] w fun e w' => e = .returned (.bool true) ∧ Below w.heap.size w w' := by
  have HE := Lib.hid hE
  clear hE
  have ha : ∀ w0, LexEnv w0 → Calls Tryd.prog 9 #[] w0 fun e w' => e = .returned (.bool true) ∧ Below w0.heap.size w0 w' := fun w0 h => awake_any w0 h
  have HA := Lib.hid ha
  clear ha
  by_cases h1 : 600 < s.size
  · go_enter Tryd.func4, Tryd.ntmps4
    go_wp2_with fail
    refine (HA.out _ HE.out).mono ?_
    rintro e w1 ⟨rfl, hb1⟩
    go_wp2_with fail
    go_ret
    exact ⟨rfl, hb1⟩
  · have h6 : s.size ≤ 600 := by omega
    clear h1
    have hs : s.size ≤ 9223372036854775800 := by omega
    cases hsc : Lex.scan s.data.toList with
    | bad a er =>
      have hpos : 0 < er := scan_badpos hsc
      have hne : ((er : Int) != 0) = true := by rw [bne_iff_ne]; omega
      have HSC := Lib.hid hsc
      clear hsc hpos
      go_enter Tryd.func4, Tryd.ntmps4
      go_wp2_with fail
      refine (HA.out _ HE.out).mono ?_
      rintro e w1 ⟨rfl, hb1⟩
      go_wp2_with fail
      refine (scan_any s _ (HE.out.keep hb1) hs).mono ?_
      rintro e w2 hp2
      obtain ⟨rfl, hb2⟩ := post_bad hp2 HSC.out
      clear hp2
      go_wp2_with fail
      go_ret
      exact ⟨rfl, hb1.trans (hb2.mono hb1.size)⟩
    | toks ts =>
      have hl := scan_len hsc
      have hch := chain_scan hsc
      rw [← Lib.size_eq] at hch
      obtain ⟨n, hn⟩ : ∃ n, ts.length = n := ⟨_, rfl⟩
      have hpos : 0 < n := by
        rw [← hn]; exact List.length_pos_iff.2 (scan_ne hsc)
      rw [hn] at hl
      have HSC := Lib.hid hsc
      have HCH := Lib.hid hch
      have HN := Lib.hid hn
      clear hsc hch hn
      go_enter Tryd.func4, Tryd.ntmps4
      go_wp2_with fail
      refine (HA.out _ HE.out).mono ?_
      rintro e w1 ⟨rfl, hb1⟩
      go_wp2_with fail
      refine (scan_any s _ (HE.out.keep hb1) hs).mono ?_
      rintro e w2 hp2
      obtain ⟨g1, cap1, he, ht1, hg1, hg2, hb2⟩ := post_toks hp2 HSC.out
      rw [HN.out] at he
      subst he
      have HT1 := Lib.hid ht1
      clear hp2 ht1
      have hs1 := hb1.size
      have hs2 := hb2.size
      go_wp2_with fail
      go_loopw [6, 27] (fun a i wr => ∃ k p : Nat, k ≤ n ∧ i = .int .i64 k ∧ a = .int .i64 p ∧ ((k = n ∧ p = s.size) ∨ Chain s.data.toList s.size p (ts.drop k)) ∧ Below w2.heap.size w2 wr) (fun _ i _ => n - (intOf i).toNat)
      case atStart => exact ⟨0, 0, by omega, rfl, rfl, .inr (by rw [List.drop_zero]; exact HCH.out), Below.refl _ _⟩
      case round =>
        obtain ⟨k, p, hk, rfl, rfl, hc, hbel⟩ := hrel
        have hsz := hbel.size
        by_cases hlt : k < n
        · obtain ⟨t, ht⟩ : ∃ t, ts[k]? = some t := ⟨_, List.getElem?_eq_getElem (by rw [HN.out]; exact hlt)⟩
          obtain ⟨x0, x1, x2, x3⟩ := (HT1.out.keep hbel hg2) k t ht
          have hd : ts.drop k = t :: ts.drop (k + 1) := by
            obtain ⟨h5, h6⟩ := List.getElem?_eq_some_iff.1 ht
            rw [List.drop_eq_getElem_cons h5, h6]
          have hc2 : Chain s.data.toList s.size p (ts.drop k) := by
            rcases hc with ⟨h5, _⟩ | h5
            · omega
            · exact h5
          rw [hd] at hc2
          by_cases hlast : k + 1 = n
          · have hnil : ts.drop (k + 1) = [] := List.drop_eq_nil_iff.2 (by rw [HN.out]; omega)
            rw [hnil] at hc2
            obtain ⟨rfl, hpn, hgap⟩ := hc2
            have hG : ∀ w0, Calls Tryd.prog 13 #[.string (s.extract p s.size)] w0 fun e w' => e = .returned (.bool true) ∧ w' = w0 := fun w0 => gap_at s p s.size w0 h6 hgap
            have HG := Lib.hid hG
            have hkn : ((k : Int) == (n : Int) - 1) = true := by rw [beq_iff_eq]; omega
            have q1 : decide ((s.size : Int) < (p : Int)) = false := by simp; omega
            have q2 : decide (s.size < p) = false := by simp; omega
            have q3 : (0 : Int) ≤ (p : Int) := by omega
            have q4 : (p : Int) ≤ (s.size : Int) := by omega
            have hx0 : s.extract s.size s.size = ⟨#[]⟩ := by apply bytes_eq; rw [Lib.extract_data]; simp
            have HT := Lib.hid ht
            have HLA := Lib.hid hlast
            clear hG ht hd hc hgap hnil hlast
            go_wp2_with fail
            go_quiet ((go_at_call 13; exact Calls.quiet_of_same (HG.out _)))
            go_wp2_with fail
            go_roundw
            case rel => exact ⟨k + 1, s.size, by omega, by go_num, rfl, .inl ⟨HLA.out, rfl⟩, by ((repeat' (first | (with_reducible exact hbel) | (with_reducible refine Below.drew ?_) | (with_reducible refine below_drewN ?_ _) | (with_reducible refine Below.alloc ?_ ?_ _))) <;> (first | omega | (simp <;> omega)))⟩
            case measure => simp [intOf]; omega
          · have hne : ∃ u us, ts.drop (k + 1) = u :: us := by
              cases h5 : ts.drop (k + 1) with
              | nil => have := List.drop_eq_nil_iff.1 h5; rw [HN.out] at this; omega
              | cons u us => exact ⟨u, us, rfl⟩
            obtain ⟨u, us, hu⟩ := hne
            rw [hu] at hc2
            obtain ⟨c1, c2, c3, c4, c5, c6, c7⟩ := hc2
            have hG : ∀ w0, Calls Tryd.prog 13 #[.string (s.extract p t.pos)] w0 fun e w' => e = .returned (.bool true) ∧ w' = w0 := fun w0 => gap_at s p t.pos w0 h6 c6
            have HG := Lib.hid hG
            have hkn : ((k : Int) == (n : Int) - 1) = false := by rw [beq_eq_false_iff_ne]; omega
            have hk0 : ((t.kind : Int) == 0) = false := by rw [beq_eq_false_iff_ne]; omega
            have hext : s.extract t.pos (t.pos + t.text.length) = ⟨t.text.toArray⟩ := by
              apply bytes_eq
              rw [Lib.extract_data, show t.pos + t.text.length - t.pos = t.text.length by omega, ← c5]
            have q1 : decide ((t.pos : Int) < (p : Int)) = false := by simp; omega
            have q2 : decide (t.pos < p) = false := by simp; omega
            have q3 : decide ((s.size : Int) < (t.pos : Int)) = false := by simp; omega
            have q4 : decide (s.size < t.pos) = false := by simp; omega
            have q5 : IntKind.i64.wrap ((s.size : Int) - (t.pos : Int)) = (s.size : Int) - (t.pos : Int) := IntWalk.i64_in _ (by omega)
            have q6 : decide ((s.size : Int) - (t.pos : Int) < (t.text.length : Int)) = false := by simp; omega
            have q7 : IntKind.i64.wrap ((t.pos : Int) + (t.text.length : Int)) = (t.pos : Int) + (t.text.length : Int) := IntWalk.i64_in _ (by omega)
            have q8 : ((t.pos : Int) + (t.text.length : Int)).toNat = t.pos + t.text.length := by omega
            have q9 : (0 : Int) ≤ (p : Int) := by omega
            have q10 : (p : Int) ≤ (t.pos : Int) := by omega
            have q11 : (t.pos : Int) ≤ (s.size : Int) := by omega
            have q12 : (t.pos : Int) ≤ (t.pos : Int) + (t.text.length : Int) := by omega
            have q13 : (t.pos : Int) + (t.text.length : Int) ≤ (s.size : Int) := by omega
            have q14 : IntKind.i64.wrap ((n : Int) - 1) = (n : Int) - 1 := IntWalk.i64_in _ (by omega)
            have q15 : (0 : Int) ≤ (t.pos : Int) := by omega
            have q16 : (0 : Int) ≤ (t.pos : Int) + (t.text.length : Int) := by omega
            have hemp : t.text.isEmpty = false := by cases h7 : t.text with | nil => exact absurd h7 c2 | cons _ _ => rfl
            have HT := Lib.hid ht
            have HU := Lib.hid hu
            have HC7 := Lib.hid c7
            clear hG ht hd hc c6 c5 c7 c2 c1 hu hlast
            go_wp2_with fail
            go_quiet ((go_at_call 13; exact Calls.quiet_of_same (HG.out _)))
            go_wp2_with fail
            go_roundw
            case rel => exact ⟨k + 1, t.pos + t.text.length, by omega, by go_num, by go_num, .inr (by rw [HU.out]; exact HC7.out), by ((repeat' (first | (with_reducible exact hbel) | (with_reducible refine Below.drew ?_) | (with_reducible refine below_drewN ?_ _) | (with_reducible refine Below.alloc ?_ ?_ _))) <;> (first | omega | (simp <;> omega)))⟩
            case measure => simp [intOf]; omega
        · have hkn : k = n := by omega
          subst hkn
          have hp : p = s.size := by
            rcases hc with ⟨_, h5⟩ | h5
            · exact h5
            · rw [List.drop_eq_nil_iff.2 (by rw [HN.out]; exact Nat.le_refl _)] at h5
              exact h5.elim
          subst hp
          go_wp2_with fail
          go_ret
          exact ⟨rfl, (hb1.trans (hb2.mono hs1)).trans (hbel.mono (by omega))⟩
end Go.Proofs.YthbipapihdppmaaDoor
