/-
  The program's lexer: run and skip, walked.
-/
import Derived.Test.YthbipapihdppmaaDoorLexRefH
import Derived.Test.YthbipapihdppmaaDoorShelf
import Derived.Shelf.Strings.SlTrimAscii
namespace Go.Proofs.YthbipapihdppmaaDoor
open Go.RowKit

theorem setZero (w : World) : (zeroValue 70).run Tryd.prog w = .ok (.agg (Array.replicate 256 (.bool false))) w := by kernel_rfl

set_option maxRecDepth 100000 in
/-- strings.TrimLeft at a set of at least two ASCII bytes -/
theorem trimLeft_any (s cs : ByteArray) (w : World) (h2 : 2 ≤ cs.size) (hcs : cs.size < 4294967281) (hascii : ∀ (j : Nat) b, cs.data.toList[j]? = some b → b.toNat < 128) :
    Calls Tryd.prog 33 #[.string s, .string cs] w fun e w' => e = .returned (.string ⟨(s.data.toList.dropWhile (cs.data.toList.contains ·)).toArray⟩) ∧ Below w.heap.size w w' := by
  by_cases h0 : 0 < s.size
  · refine (Any.strings_TrimLeft_set Tryd.lays161 setZero (by kernel_rfl) s cs w h2 h0 hcs hascii).mono ?_
    rintro e w' ⟨rfl, rfl⟩
    exact ⟨rfl, ((Below.refl _ _).alloc (Nat.le_refl _) _).alloc (by simp) _⟩
  · refine (Any.strings_TrimLeft_empty Tryd.lays161 s cs w (.inl (by omega))).mono ?_
    rintro e w' ⟨rfl, rfl⟩
    have h : s.data.toList = [] := List.eq_nil_of_length_eq_zero (by rw [← Lib.size_eq]; omega)
    refine ⟨?_, Below.refl _ _⟩
    rw [h]
    have : s = ⟨#[]⟩ := by rw [← Lib.mk_data s, h]
    rw [this]; rfl

theorem ret_str {a b : ByteArray} (h : a = b) : Ending.returned (.string a) = .returned (.string b) := by rw [h]
theorem bytes_eq {a b : ByteArray} (h : a.data.toList = b.data.toList) : a = b := by rw [← Lib.mk_data a, ← Lib.mk_data b, h]

theorem drop_take_while {α : Type} (p : α → Bool) (l : List α) : l.take (l.length - (l.dropWhile p).length) = l.takeWhile p := by
  have h := List.takeWhile_append_dropWhile (p := p) (l := l)
  have hl : l.length = (l.takeWhile p).length + (l.dropWhile p).length := by rw [← List.length_append, h]
  rw [hl, Nat.add_sub_cancel]
  exact take_takeWhile p l
theorem dropWhile_le {α : Type} (p : α → Bool) (l : List α) : (l.dropWhile p).length ≤ l.length := (List.dropWhile_sublist p).length_le

set_option maxHeartbeats 400000 in
/-- run -/
theorem run_any (s cs : ByteArray) (w : World) (hs : s.size ≤ 9223372036854775807) (h2 : 2 ≤ cs.size) (hcs : cs.size < 4294967281) (hascii : ∀ (j : Nat) b, cs.data.toList[j]? = some b → b.toNat < 128) :
    Calls Tryd.prog 44 #[.string s, .string cs] w fun e w' => e = .returned (.string ⟨(s.data.toList.takeWhile (cs.data.toList.contains ·)).toArray⟩) ∧ Below w.heap.size w w' := by
  obtain ⟨D, hD⟩ : ∃ D, s.data.toList.dropWhile (cs.data.toList.contains ·) = D := ⟨_, rfl⟩
  have hle := dropWhile_le (cs.data.toList.contains ·) s.data.toList
  have htk := drop_take_while (cs.data.toList.contains ·) s.data.toList
  have hT := trimLeft_any s cs w h2 hcs hascii
  rw [hD, ← Lib.size_eq] at hle htk
  rw [hD] at hT
  have HT := Lib.hid hT
  have HK := Lib.hid htk
  clear hD hT htk hascii
  go_enter Tryd.func44, Tryd.ntmps44
  go_wp2_with (go_at_call 33; refine HT.out.mono ?_; rintro e w' ⟨rfl, hb⟩)
  go_ret
  refine ⟨ret_str (bytes_eq ?_), hb⟩
  rw [← HK.out, Lib.extract_data]
  simp

theorem indexByte_lt (l : List UInt8) (c : UInt8) : Lib.indexByte l c < l.length := by
  induction l with
  | nil => simp [Lib.indexByte]
  | cons b l ih =>
    unfold Lib.indexByte
    rw [List.length_cons]
    split
    · omega
    · split <;> omega

theorem skip_true_index : ∀ l : List UInt8, Lex.skip true l = if Lib.indexByte l 10 = -1 then [] else Lex.skip false (l.drop (Lib.indexByte l 10).toNat)
  | [] => by simp [Lex.skip, Lib.indexByte]
  | c :: r => by
    rw [skip_t]
    have ih := skip_true_index r
    have hge := Lib.indexByte_ge r 10
    by_cases h : c = 10
    · subst h
      rw [if_pos (by rfl)]
      have : Lib.indexByte (10 :: r) 10 = 0 := by simp [Lib.indexByte]
      rw [this, if_neg (by omega), Int.toNat_zero, List.drop_zero, skip_f, if_pos (by rfl)]
    · have hc : ¬ c.toNat = 10 := fun e => h (UInt8.toNat_inj.1 e)
      rw [if_neg hc, ih]
      by_cases h2 : Lib.indexByte r 10 = -1
      · have : Lib.indexByte (c :: r) 10 = -1 := by simp [Lib.indexByte, h, h2]
        rw [if_pos h2, if_pos this]
      · have : Lib.indexByte (c :: r) 10 = Lib.indexByte r 10 + 1 := by simp [Lib.indexByte, h, h2]
        rw [if_neg h2, this, if_neg (by omega), show (Lib.indexByte r 10 + 1).toNat = (Lib.indexByte r 10).toNat + 1 by omega, List.drop_succ_cons]

theorem spaces_contains (c : UInt8) : ([32, 9, 10, 13] : List UInt8).contains c = Lex.space c := by
  rw [Bool.eq_iff_iff, space_iff, List.contains_iff_mem]
  simp only [List.mem_cons, List.not_mem_nil, or_false, ← UInt8.toNat_inj]
  rfl
theorem skip_dropWhile : ∀ l : List UInt8, Lex.skip false l = Lex.skip false (l.dropWhile (([32, 9, 10, 13] : List UInt8).contains ·))
  | [] => rfl
  | c :: r => by
    rw [List.dropWhile_cons, spaces_contains]
    by_cases h : Lex.space c = true
    · rw [if_pos h, skip_f, if_pos h]; exact skip_dropWhile r
    · rw [if_neg h]

def strLen : Value → Nat | .string x => x.size | _ => 0

theorem dropWhile_head {α : Type} {p : α → Bool} {l : List α} {a : α} {r : List α} (h : l.dropWhile p = a :: r) : p a = false := by
  induction l with
  | nil => cases h
  | cons b l ih =>
    rw [List.dropWhile_cons] at h
    by_cases hb : p b = true
    · rw [if_pos hb] at h; exact ih h
    · rw [if_neg hb] at h; cases h; simpa using hb

/-- the loop's one step, on lists -/
theorem skip_step (l : List UInt8) (y : List UInt8) (hy : l.dropWhile (([32, 9, 10, 13] : List UInt8).contains ·) = y) :
    (Lib.hasPrefix y [35] = false ∧ Lex.skip false l = y) ∨
    (Lib.hasPrefix y [35] = true ∧ 1 ≤ y.length ∧ ((Lib.indexByte y 10 = -1 ∧ Lex.skip false l = []) ∨ (1 ≤ Lib.indexByte y 10 ∧ Lib.indexByte y 10 < y.length ∧ Lex.skip false l = Lex.skip false (y.drop (Lib.indexByte y 10).toNat)))) := by
  have h0 := skip_dropWhile l
  rw [hy] at h0
  rw [h0]
  cases y with
  | nil => exact .inl ⟨rfl, rfl⟩
  | cons c r =>
    have hns : Lex.space c = false := by
      have := dropWhile_head hy
      rwa [spaces_contains] at this
    by_cases h : c = 35
    · subst h
      refine .inr ⟨by simp [Lib.hasPrefix], by simp, ?_⟩
      rw [skip_f, hns, if_neg (by simp), if_pos (by rfl), skip_true_index r]
      have hge := Lib.indexByte_ge r 10
      by_cases h2 : Lib.indexByte r 10 = -1
      · have : Lib.indexByte (35 :: r) 10 = -1 := by simp [Lib.indexByte, h2]
        exact .inl ⟨this, by rw [if_pos h2]⟩
      · have : Lib.indexByte (35 :: r) 10 = Lib.indexByte r 10 + 1 := by simp [Lib.indexByte, h2]
        refine .inr ⟨by omega, ?_, ?_⟩
        · have hlt := indexByte_lt r 10
          rw [this, List.length_cons]; omega
        · rw [if_neg h2, this, show (Lib.indexByte r 10 + 1).toNat = (Lib.indexByte r 10).toNat + 1 by omega, List.drop_succ_cons]
    · refine .inl ⟨by simp only [Lib.hasPrefix, List.isPrefixOf, Bool.and_eq_false_iff]; exact .inl (beq_eq_false_iff_ne.2 fun e => h e.symm), ?_⟩
      have h35 : ¬ c.toNat = 35 := fun e => h (UInt8.toNat_inj.1 e)
      rw [skip_f, hns, if_neg (by simp), if_neg h35]

def spcs : ByteArray := ⟨#[32, 9, 10, 13]⟩
theorem spcs_ascii (j : Nat) (b : UInt8) (h : spcs.data.toList[j]? = some b) : b.toNat < 128 := by
  have := List.mem_of_getElem? h
  simp [spcs] at this
  rcases this with rfl | rfl | rfl | rfl <;> decide

set_option maxRecDepth 100000 in
set_option maxHeartbeats 1000000 in
/-- skip -/
theorem skip_any (s : ByteArray) (w : World) :
    Calls Tryd.prog 23 #[.string s] w fun e w' => e = .returned (.string ⟨(Lex.skip false s.data.toList).toArray⟩) ∧ Below w.heap.size w w' := by
  go_enter Tryd.func23, Tryd.ntmps23
  go_wp2
  go_loopw [0] (fun v wr => ∃ x : ByteArray, v = .string x ∧ x.size ≤ s.size ∧ Lex.skip false s.data.toList = Lex.skip false x.data.toList ∧ Below w.heap.size w wr) (fun v _ => strLen v)
  case atStart => exact ⟨s, rfl, Nat.le_refl _, rfl, Below.refl _ _⟩
  case round =>
    obtain ⟨x, rfl, hxs, hsk, hbel⟩ := hrel
    have HSK := Lib.hid hsk
    clear hsk
    obtain ⟨Y, hY⟩ : ∃ Y, x.data.toList.dropWhile (([32, 9, 10, 13] : List UInt8).contains ·) = Y := ⟨_, rfl⟩
    have hT : ∀ w0, Calls Tryd.prog 33 #[.string x, .string ⟨#[32, 9, 10, 13]⟩] w0 fun e w' => e = .returned (.string ⟨Y.toArray⟩) ∧ Below w0.heap.size w0 w' := by
      intro w0
      have h := trimLeft_any x spcs w0 (by decide) (by decide) spcs_ascii
      rw [← hY]
      exact h
    have hle := dropWhile_le (([32, 9, 10, 13] : List UInt8).contains ·) x.data.toList
    rw [hY, ← Lib.size_eq] at hle
    have hst := skip_step _ Y hY
    have HT := Lib.hid hT
    clear hT hY
    have hsz := hbel.size
    rcases hst with ⟨h1, h2⟩ | ⟨h1, h2, h3⟩
    · have hP : ∀ w0, Calls Tryd.prog 34 #[.string ⟨Y.toArray⟩, .string ⟨#[35]⟩] w0 fun e w' => e = .returned (.bool false) ∧ w' = w0 := by
        intro w0
        have h := Tryd.strings_HasPrefix ⟨Y.toArray⟩ ⟨#[35]⟩ w0
        simp only [h1] at h
        exact h
      have HP := Lib.hid hP
      have H2 := Lib.hid h2
      clear hP h1 h2
      go_wp2_with (first | (go_at_call 33; refine (HT.out _).mono ?_; rintro e w1 ⟨rfl, hb⟩) | (go_at_call 34; refine (HP.out _).mono ?_; rintro e w' ⟨rfl, rfl⟩))
      go_ret
      exact ⟨ret_str (by rw [HSK.out, H2.out]), hbel.trans (hb.mono (by omega))⟩
    · have hP : ∀ w0, Calls Tryd.prog 34 #[.string ⟨Y.toArray⟩, .string ⟨#[35]⟩] w0 fun e w' => e = .returned (.bool true) ∧ w' = w0 := by
        intro w0
        have h := Tryd.strings_HasPrefix ⟨Y.toArray⟩ ⟨#[35]⟩ w0
        simp only [h1] at h
        exact h
      have HP := Lib.hid hP
      have hY2 : (⟨Y.toArray⟩ : ByteArray).size = Y.length := by rw [Lib.size_eq]
      have HY2 := Lib.hid hY2
      clear hP h1 hY2
      rcases h3 with ⟨h4, h5⟩ | ⟨h4, h5, h6⟩
      · have hI : ∀ w0, Calls Tryd.prog 35 #[.string ⟨Y.toArray⟩, .int .u8 10] w0 fun e w' => e = .returned (.int .i64 (-1)) ∧ w' = w0 := by
          intro w0
          have h := Tryd.strings_IndexByte ⟨Y.toArray⟩ 10 w0
          rw [← h4]
          exact h
        have HI := Lib.hid hI
        have H5 := Lib.hid h5
        clear hI h4 h5
        go_wp2_with (first | (go_at_call 33; refine (HT.out _).mono ?_; rintro e w1 ⟨rfl, hb⟩) | (go_at_call 34; refine (HP.out _).mono ?_; rintro e w' ⟨rfl, rfl⟩) | (go_at_call 35; refine (HI.out _).mono ?_; rintro e w' ⟨rfl, rfl⟩))
        go_roundw
        case rel => exact ⟨⟨#[]⟩, rfl, Nat.zero_le _, by rw [HSK.out, H5.out]; rfl, hbel.trans (hb.mono (by omega))⟩
        case measure => show (⟨#[]⟩ : ByteArray).size < x.size; rw [show (⟨#[]⟩ : ByteArray).size = 0 from rfl]; omega
      · obtain ⟨n, hn⟩ := Int.eq_ofNat_of_zero_le (show 0 ≤ Lib.indexByte Y 10 by omega)
        rw [hn] at h4 h5 h6
        rw [Int.toNat_natCast] at h6
        have hI : ∀ w0, Calls Tryd.prog 35 #[.string ⟨Y.toArray⟩, .int .u8 10] w0 fun e w' => e = .returned (.int .i64 n) ∧ w' = w0 := by
          intro w0
          have h := Tryd.strings_IndexByte ⟨Y.toArray⟩ 10 w0
          rw [← hn]
          exact h
        have HI := Lib.hid hI
        have H6 := Lib.hid h6
        clear hI h6 hn
        go_wp2_with (first | (go_at_call 33; refine (HT.out _).mono ?_; rintro e w1 ⟨rfl, hb⟩) | (go_at_call 34; refine (HP.out _).mono ?_; rintro e w' ⟨rfl, rfl⟩) | (go_at_call 35; refine (HI.out _).mono ?_; rintro e w' ⟨rfl, rfl⟩))
        have hx : ((⟨Y.toArray⟩ : ByteArray).extract n Y.length) = ⟨(Y.drop n).toArray⟩ := by
          apply bytes_eq
          rw [Lib.extract_data]
          show (Y.drop n).take _ = Y.drop n
          exact List.take_of_length_le (by rw [List.length_drop]; omega)
        have hy : (⟨(Y.drop n).toArray⟩ : ByteArray).size = Y.length - n := by rw [Lib.size_eq]; simp
        rw [hx]
        go_roundw
        case rel => exact ⟨_, rfl, by rw [hy]; omega, by rw [HSK.out, H6.out], hbel.trans (hb.mono (by omega))⟩
        case measure => show (⟨(Y.drop n).toArray⟩ : ByteArray).size < x.size; rw [hy]; omega
end Go.Proofs.YthbipapihdppmaaDoor
