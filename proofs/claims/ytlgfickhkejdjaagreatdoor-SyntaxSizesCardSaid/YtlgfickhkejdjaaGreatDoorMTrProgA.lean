/-
  Trees of the language: the program's isToken, isVariable, isClass, walked.
-/
import Derived.Test.YtlgfickhkejdjaaGreatDoorMTrA
import Derived.Test.YtlgfickhkejdjaaGreatDoorMLexB
namespace Go.Proofs.YtlgfickhkejdjaaGreatDoor
open Go.RowKit

theorem tokB_of {k : Nat} {l : List UInt8} {t : Lex.Tok} {ts : List Lex.Tok} (h : Lex.scan l = .toks (t :: ts)) : Tr.tokB k l = (t.kind == k && decide (t.text = l)) := by unfold Tr.tokB; rw [h]
theorem text_beq (l : List UInt8) (s : ByteArray) : ((⟨l.toArray⟩ : ByteArray).toList == s.toList) = decide (l = s.data.toList) := by
  rw [bytes_beq, Bool.eq_iff_iff, decide_eq_true_eq, decide_eq_true_eq]
  constructor
  · intro h; rw [← h]
  · intro h
    cases s with
    | mk d => simp only at h; rw [h]

theorem text_beq2 (l : List UInt8) (s : ByteArray) : (l == s.toList) = decide (l = s.data.toList) := by
  have h := text_beq l s
  have e : (⟨l.toArray⟩ : ByteArray).toList = l := by simp
  rw [e] at h
  exact h
set_option maxHeartbeats 400000 in
theorem scan_long (s : ByteArray) (w : World) (hs : s.size ≤ 9223372036854775807) (hl : 16384 < s.size) :
    Calls Tryz.prog 108 #[.string s] w fun e w' => e = .returned (.tuple #[.slice none 0 0, .int .i64 0, .int .i64 8]) ∧ w = w' := by
  go_enter Tryz.func108, Tryz.ntmps108
  go_wp2
  go_ret3
  exact ⟨rfl, rfl⟩
theorem scan_all (s : ByteArray) (w : World) (hE : LexEnv w) (hs : s.size ≤ maxLen) : Calls Tryz.prog 108 #[.string s] w (ScanPost s w) := by
  by_cases h : s.size ≤ 16384
  · exact scan_any_short s w hE h
  · refine (scan_long s w hs (by omega)).mono ?_
    rintro e w' ⟨rfl, rfl⟩
    refine .inl ⟨0, 8, ?_, rfl, Below.refl _ _⟩
    unfold Lex.scan
    rw [if_pos (by rw [data_len]; omega)]
theorem scanF_bad_pos (n : Nat) : ∀ (f : Nat) (l : List UInt8) (a er : Nat), l.length ≤ f → Lex.scanF n f l = .bad a er → 0 < er
  | f, [], a, er, _, h => by rw [Lex.scanF_nil] at h; cases h
  | 0, _ :: _, _, _, hf, _ => by simp at hf
  | f + 1, c :: r, a, er, hf, h => by
    cases hn : Lex.next (c :: r) with
    | bad e =>
      rw [Lex.scanF_bad hn] at h
      cases h
      exact Lex.next_bad hn
    | tok k t v =>
      rw [Lex.scanF, hn] at h
      simp only [] at h
      have h3 := (Lex.next_text hn).2.1
      have hle := Lex.skip_le false ((c :: r).drop t.length)
      rw [List.length_drop] at hle
      have hlen : (Lex.skip false ((c :: r).drop t.length)).length ≤ f := by
        simp only [List.length_cons] at hle hf
        omega
      cases hr : Lex.scanF n f (Lex.skip false ((c :: r).drop t.length)) with
      | bad a2 e2 =>
        rw [hr] at h
        cases h
        exact scanF_bad_pos n f _ _ _ hlen hr
      | toks l' => rw [hr] at h; cases h
theorem scan_bad_pos {l : List UInt8} {a er : Nat} (h : Lex.scan l = .bad a er) : 0 < er := by
  unfold Lex.scan at h
  split at h
  · cases h; omega
  · exact scanF_bad_pos _ _ _ _ _ (Lex.skip_le false l) h

set_option maxRecDepth 100000 in
set_option maxHeartbeats 2000000 in
theorem isToken_any (s : ByteArray) (k : Nat) (w : World) (hE : LexEnv w) (hs : s.size ≤ maxLen) :
    Calls Tryz.prog 74 #[.string s, .int .i64 k] w fun e w' => e = .returned (.bool (Tr.tokB k s.data.toList)) ∧ Below w.heap.size w w' := by
  have HS := Lib.hid (scan_all s w hE hs)
  cases hsc : Lex.scan s.data.toList with
  | bad a er =>
    have her : Hid (Tr.tokB k s.data.toList = false) := by show _ = _; unfold Tr.tokB; rw [hsc]
    have he : 0 < er := scan_bad_pos hsc
    have he2 : ((er : Int) == 0) = false := beq_eq_false_iff_ne.2 (by omega)
    have HSC := Lib.hid hsc
    clear hsc hE
    go_enter Tryz.func74, Tryz.ntmps74
    go_wp2_with fail
    refine HS.out.mono ?_
    rintro e w2 hp
    obtain ⟨rfl, hb⟩ := post_bad hp HSC.out
    clear hp
    go_wp2_with fail
    go_ret
    exact ⟨by rw [her.out]; rfl, hb⟩
  | toks ts =>
    obtain ⟨t, r, rfl⟩ : ∃ t r, ts = t :: r := by
      have := scan_ne hsc
      cases ts with
      | nil => exact absurd rfl this
      | cons t r => exact ⟨t, r, rfl⟩
    have htk := Lib.hid (tokB_of (k := k) hsc)
    have HSC := Lib.hid hsc
    have hlen : 1 ≤ (t :: r).length := by simp
    obtain ⟨n, hn⟩ : ∃ n, (t :: r).length = n := ⟨_, rfl⟩
    rw [hn] at hlen
    have hl2 := scan_len hsc
    rw [hn] at hl2
    have HN := Lib.hid hn
    obtain ⟨kd, tx, vl, ps⟩ := t
    clear hsc hE hn
    by_cases hkk : kd = k
    · have hb1 : ((kd : Int) == (k : Int)) = true := beq_iff_eq.2 (by omega)
      have hf : Hid (Tr.tokB k s.data.toList = decide (tx = s.data.toList)) := by rw [htk.out]; show ((kd == k) && _) = _; rw [hkk, beq_self_eq_true, Bool.true_and]
      clear hkk
      go_enter Tryz.func74, Tryz.ntmps74
      go_wp2_with fail
      refine HS.out.mono ?_
      rintro e w2 hp
      obtain ⟨g, cap, rfl, hta, h1, h2, hb⟩ := post_toks hp HSC.out
      rw [HN.out]
      obtain ⟨c0, c1, _, _⟩ := hta 0 _ rfl
      clear hp hta
      go_wp2_with fail
      go_ret
      exact ⟨by rw [hf.out]; exact ret_bool (text_beq2 tx s), hb⟩
    · have hb1 : ((kd : Int) == (k : Int)) = false := beq_eq_false_iff_ne.2 (by omega)
      have hf : Hid (Tr.tokB k s.data.toList = false) := by rw [htk.out]; show ((kd == k) && _) = _; rw [beq_eq_false_iff_ne.2 hkk, Bool.false_and]
      clear hkk
      go_enter Tryz.func74, Tryz.ntmps74
      go_wp2_with fail
      refine HS.out.mono ?_
      rintro e w2 hp
      obtain ⟨g, cap, rfl, hta, h1, h2, hb⟩ := post_toks hp HSC.out
      rw [HN.out]
      obtain ⟨c0, c1, _, _⟩ := hta 0 _ rfl
      clear hp hta
      go_wp2_with fail
      go_ret
      exact ⟨by rw [hf.out]; rfl, hb⟩
set_option maxHeartbeats 400000 in
theorem isVariable_any (s : ByteArray) (w : World) (hE : LexEnv w) (hs : s.size ≤ maxLen) :
    Calls Tryz.prog 38 #[.string s] w fun e w' => e = .returned (.bool (Tr.varB s)) ∧ Below w.heap.size w w' := by
  have h := isToken_any s 2 w hE hs
  rw [Tr.tokB_var] at h
  have H := Lib.hid h
  clear h hE
  go_enter Tryz.func38, Tryz.ntmps38
  go_wp2_with fail
  refine H.out.mono ?_
  rintro e w' ⟨rfl, hb⟩
  go_wp2_with fail
  go_ret
  exact ⟨rfl, hb⟩
set_option maxHeartbeats 400000 in
theorem isClass_any (s : ByteArray) (w : World) (hE : LexEnv w) (hs : s.size ≤ maxLen) :
    Calls Tryz.prog 39 #[.string s] w fun e w' => e = .returned (.bool (Tr.clsB s)) ∧ Below w.heap.size w w' := by
  have h := isToken_any s 3 w hE hs
  rw [Tr.tokB_cls] at h
  have H := Lib.hid h
  clear h hE
  go_enter Tryz.func39, Tryz.ntmps39
  go_wp2_with fail
  refine H.out.mono ?_
  rintro e w' ⟨rfl, hb⟩
  go_wp2_with fail
  go_ret
  exact ⟨rfl, hb⟩
/-- an index that is not below 0 exactly if b -/
def IdxPost (b : Bool) (W : World) (e : Ending) (w' : World) : Prop := ∃ i : Int, e = .returned (.int .i64 i) ∧ decide (0 ≤ i) = b ∧ Below W.heap.size W w'
theorem SlStr.len {w : World} {v : Value} {l : List ByteArray} (h : SlStr w v l) : l.length ≤ maxLen := by
  obtain ⟨p, c, e, h1, _⟩ := h; exact h1
def methV (m : Tr.M) (x y : Value) : Value := .agg #[.string m.name, x, y]
def classV (c : Tr.C) (x y : Value) : Value := .agg #[.string c.name, .bool c.actor, x, y]
end Go.Proofs.YtlgfickhkejdjaaGreatDoor
