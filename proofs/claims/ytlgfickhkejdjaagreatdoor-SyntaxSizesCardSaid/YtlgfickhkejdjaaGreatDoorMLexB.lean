/-
  Several texts in one: LexProgA, LexProgB, LexProgC, LexProgD, LexProgE, LexProgF, LexProgG, LexProgH, LexFmt, LexAwake, LexLawScans.
-/
import Derived.Test.YtlgfickhkejdjaaGreatDoorMLexA
import Derived.Test.YtlgfickhkejdjaaGreatDoorMShelf
import Derived.Shelf.Strings.SlTrimAscii
import Derived.Test.YtlgfickhkejdjaaGreatDoorMShelfB
import Derived.Maps.Own
import Derived.Maps.Views
import Derived.StillTailTactics
namespace Go.Proofs.YtlgfickhkejdjaaGreatDoor
open Go.RowKit

theorem setZero (w : World) : (zeroValue 94).run Tryz.prog w = .ok (.agg (Array.replicate 256 (.bool false))) w := by kernel_rfl

set_option maxRecDepth 100000 in
/-- strings.TrimLeft at a set of at least two ASCII bytes -/
theorem trimLeft_any (s cs : ByteArray) (w : World) (h2 : 2 ≤ cs.size) (hcs : cs.size < 4294967281) (hascii : ∀ (j : Nat) b, cs.data.toList[j]? = some b → b.toNat < 128) :
    Calls Tryz.prog 34 #[.string s, .string cs] w fun e w' => e = .returned (.string ⟨(s.data.toList.dropWhile (cs.data.toList.contains ·)).toArray⟩) ∧ Below w.heap.size w w' := by
  by_cases h0 : 0 < s.size
  · refine (Any.strings_TrimLeft_set Tryz.lays161 setZero (by kernel_rfl) s cs w h2 h0 hcs hascii).mono ?_
    rintro e w' ⟨rfl, rfl⟩
    exact ⟨rfl, ((Below.refl _ _).alloc (Nat.le_refl _) _).alloc (by simp) _⟩
  · refine (Any.strings_TrimLeft_empty Tryz.lays161 s cs w (.inl (by omega))).mono ?_
    rintro e w' ⟨rfl, rfl⟩
    have h : s.data.toList = [] := List.eq_nil_of_length_eq_zero (by rw [← Lib.size_eq]; omega)
    refine ⟨?_, Below.refl _ _⟩
    rw [h]
    have : s = ⟨#[]⟩ := by rw [← Lib.mk_data s, h]
    rw [this]; rfl

theorem ret_str {a b : ByteArray} (h : a = b) : Ending.returned (.string a) = .returned (.string b) := by rw [h]
theorem bytes_eq {a b : ByteArray} (h : a.data.toList = b.data.toList) : a = b := by rw [← Lib.mk_data a, ← Lib.mk_data b, h]

theorem drop_take_while {α : Type} (p : α → Bool) (l : List α) : l.take (l.length - (l.dropWhile p).length) = l.takeWhile p := by
  have h := List.takeWhile_append_dropWhile (p := p) (l := l)
  have hl : l.length = (l.takeWhile p).length + (l.dropWhile p).length := by rw [← List.length_append, h]
  rw [hl, Nat.add_sub_cancel]
  exact take_takeWhile p l
theorem dropWhile_le {α : Type} (p : α → Bool) (l : List α) : (l.dropWhile p).length ≤ l.length := (List.dropWhile_sublist p).length_le

set_option maxHeartbeats 400000 in
/-- run -/
theorem run_any (s cs : ByteArray) (w : World) (hs : s.size ≤ 9223372036854775807) (h2 : 2 ≤ cs.size) (hcs : cs.size < 4294967281) (hascii : ∀ (j : Nat) b, cs.data.toList[j]? = some b → b.toNat < 128) :
    Calls Tryz.prog 166 #[.string s, .string cs] w fun e w' => e = .returned (.string ⟨(s.data.toList.takeWhile (cs.data.toList.contains ·)).toArray⟩) ∧ Below w.heap.size w w' := by
  obtain ⟨D, hD⟩ : ∃ D, s.data.toList.dropWhile (cs.data.toList.contains ·) = D := ⟨_, rfl⟩
  have hle := dropWhile_le (cs.data.toList.contains ·) s.data.toList
  have htk := drop_take_while (cs.data.toList.contains ·) s.data.toList
  have hT := trimLeft_any s cs w h2 hcs hascii
  rw [hD, ← Lib.size_eq] at hle htk
  rw [hD] at hT
  have HT := Lib.hid hT
  have HK := Lib.hid htk
  clear hD hT htk hascii
  go_enter Tryz.func166, Tryz.ntmps166
  go_wp2_with (go_at_call 34; refine HT.out.mono ?_; rintro e w' ⟨rfl, hb⟩)
  go_ret
  refine ⟨ret_str (bytes_eq ?_), hb⟩
  rw [← HK.out, Lib.extract_data]
  simp

theorem indexByte_lt (l : List UInt8) (c : UInt8) : Lib.indexByte l c < l.length := by
  induction l with
  | nil => simp [Lib.indexByte]
  | cons b l ih =>
    unfold Lib.indexByte
    rw [List.length_cons]
    split
    · omega
    · split <;> omega

theorem skip_true_index : ∀ l : List UInt8, Lex.skip true l = if Lib.indexByte l 10 = -1 then [] else Lex.skip false (l.drop (Lib.indexByte l 10).toNat)
  | [] => by simp [Lex.skip, Lib.indexByte]
  | c :: r => by
    rw [skip_t]
    have ih := skip_true_index r
    have hge := Lib.indexByte_ge r 10
    by_cases h : c = 10
    · subst h
      rw [if_pos (by rfl)]
      have : Lib.indexByte (10 :: r) 10 = 0 := by simp [Lib.indexByte]
      rw [this, if_neg (by omega), Int.toNat_zero, List.drop_zero, skip_f, if_pos (by rfl)]
    · have hc : ¬ c.toNat = 10 := fun e => h (UInt8.toNat_inj.1 e)
      rw [if_neg hc, ih]
      by_cases h2 : Lib.indexByte r 10 = -1
      · have : Lib.indexByte (c :: r) 10 = -1 := by simp [Lib.indexByte, h, h2]
        rw [if_pos h2, if_pos this]
      · have : Lib.indexByte (c :: r) 10 = Lib.indexByte r 10 + 1 := by simp [Lib.indexByte, h, h2]
        rw [if_neg h2, this, if_neg (by omega), show (Lib.indexByte r 10 + 1).toNat = (Lib.indexByte r 10).toNat + 1 by omega, List.drop_succ_cons]

theorem spaces_contains (c : UInt8) : ([32, 9, 10, 13] : List UInt8).contains c = Lex.space c := by
  rw [Bool.eq_iff_iff, space_iff, List.contains_iff_mem]
  simp only [List.mem_cons, List.not_mem_nil, or_false, ← UInt8.toNat_inj]
  rfl
theorem skip_dropWhile : ∀ l : List UInt8, Lex.skip false l = Lex.skip false (l.dropWhile (([32, 9, 10, 13] : List UInt8).contains ·))
  | [] => rfl
  | c :: r => by
    rw [List.dropWhile_cons, spaces_contains]
    by_cases h : Lex.space c = true
    · rw [if_pos h, skip_f, if_pos h]; exact skip_dropWhile r
    · rw [if_neg h]

def strLen : Value → Nat | .string x => x.size | _ => 0

theorem dropWhile_head {α : Type} {p : α → Bool} {l : List α} {a : α} {r : List α} (h : l.dropWhile p = a :: r) : p a = false := by
  induction l with
  | nil => cases h
  | cons b l ih =>
    rw [List.dropWhile_cons] at h
    by_cases hb : p b = true
    · rw [if_pos hb] at h; exact ih h
    · rw [if_neg hb] at h; cases h; simpa using hb

/-- the loop's one step, on lists -/
theorem skip_step (l : List UInt8) (y : List UInt8) (hy : l.dropWhile (([32, 9, 10, 13] : List UInt8).contains ·) = y) :
    (Lib.hasPrefix y [35] = false ∧ Lex.skip false l = y) ∨
    (Lib.hasPrefix y [35] = true ∧ 1 ≤ y.length ∧ ((Lib.indexByte y 10 = -1 ∧ Lex.skip false l = []) ∨ (1 ≤ Lib.indexByte y 10 ∧ Lib.indexByte y 10 < y.length ∧ Lex.skip false l = Lex.skip false (y.drop (Lib.indexByte y 10).toNat)))) := by
  have h0 := skip_dropWhile l
  rw [hy] at h0
  rw [h0]
  cases y with
  | nil => exact .inl ⟨rfl, rfl⟩
  | cons c r =>
    have hns : Lex.space c = false := by
      have := dropWhile_head hy
      rwa [spaces_contains] at this
    by_cases h : c = 35
    · subst h
      refine .inr ⟨by simp [Lib.hasPrefix], by simp, ?_⟩
      rw [skip_f, hns, if_neg (by simp), if_pos (by rfl), skip_true_index r]
      have hge := Lib.indexByte_ge r 10
      by_cases h2 : Lib.indexByte r 10 = -1
      · have : Lib.indexByte (35 :: r) 10 = -1 := by simp [Lib.indexByte, h2]
        exact .inl ⟨this, by rw [if_pos h2]⟩
      · have : Lib.indexByte (35 :: r) 10 = Lib.indexByte r 10 + 1 := by simp [Lib.indexByte, h2]
        refine .inr ⟨by omega, ?_, ?_⟩
        · have hlt := indexByte_lt r 10
          rw [this, List.length_cons]; omega
        · rw [if_neg h2, this, show (Lib.indexByte r 10 + 1).toNat = (Lib.indexByte r 10).toNat + 1 by omega, List.drop_succ_cons]
    · refine .inl ⟨by simp only [Lib.hasPrefix, List.isPrefixOf, Bool.and_eq_false_iff]; exact .inl (beq_eq_false_iff_ne.2 fun e => h e.symm), ?_⟩
      have h35 : ¬ c.toNat = 35 := fun e => h (UInt8.toNat_inj.1 e)
      rw [skip_f, hns, if_neg (by simp), if_neg h35]

def spcs : ByteArray := ⟨#[32, 9, 10, 13]⟩
theorem spcs_ascii (j : Nat) (b : UInt8) (h : spcs.data.toList[j]? = some b) : b.toNat < 128 := by
  have := List.mem_of_getElem? h
  simp [spcs] at this
  rcases this with rfl | rfl | rfl | rfl <;> decide

set_option maxRecDepth 100000 in
set_option maxHeartbeats 1000000 in
/-- skip -/
theorem skip_any (s : ByteArray) (w : World) :
    Calls Tryz.prog 136 #[.string s] w fun e w' => e = .returned (.string ⟨(Lex.skip false s.data.toList).toArray⟩) ∧ Below w.heap.size w w' := by
  go_enter Tryz.func136, Tryz.ntmps136
  go_wp2
  go_loopw [0] (fun v wr => ∃ x : ByteArray, v = .string x ∧ x.size ≤ s.size ∧ Lex.skip false s.data.toList = Lex.skip false x.data.toList ∧ Below w.heap.size w wr) (fun v _ => strLen v)
  case atStart => exact ⟨s, rfl, Nat.le_refl _, rfl, Below.refl _ _⟩
  case round =>
    obtain ⟨x, rfl, hxs, hsk, hbel⟩ := hrel
    have HSK := Lib.hid hsk
    clear hsk
    obtain ⟨Y, hY⟩ : ∃ Y, x.data.toList.dropWhile (([32, 9, 10, 13] : List UInt8).contains ·) = Y := ⟨_, rfl⟩
    have hT : ∀ w0, Calls Tryz.prog 34 #[.string x, .string ⟨#[32, 9, 10, 13]⟩] w0 fun e w' => e = .returned (.string ⟨Y.toArray⟩) ∧ Below w0.heap.size w0 w' := by
      intro w0
      have h := trimLeft_any x spcs w0 (by decide) (by decide) spcs_ascii
      rw [← hY]
      exact h
    have hle := dropWhile_le (([32, 9, 10, 13] : List UInt8).contains ·) x.data.toList
    rw [hY, ← Lib.size_eq] at hle
    have hst := skip_step _ Y hY
    have HT := Lib.hid hT
    clear hT hY
    have hsz := hbel.size
    rcases hst with ⟨h1, h2⟩ | ⟨h1, h2, h3⟩
    · have hP : ∀ w0, Calls Tryz.prog 35 #[.string ⟨Y.toArray⟩, .string ⟨#[35]⟩] w0 fun e w' => e = .returned (.bool false) ∧ w' = w0 := by
        intro w0
        have h := Tryz.strings_HasPrefix ⟨Y.toArray⟩ ⟨#[35]⟩ w0
        simp only [h1] at h
        exact h
      have HP := Lib.hid hP
      have H2 := Lib.hid h2
      clear hP h1 h2
      go_wp2_with (first | (go_at_call 34; refine (HT.out _).mono ?_; rintro e w1 ⟨rfl, hb⟩) | (go_at_call 35; refine (HP.out _).mono ?_; rintro e w' ⟨rfl, rfl⟩))
      go_ret
      exact ⟨ret_str (by rw [HSK.out, H2.out]), hbel.trans (hb.mono (by omega))⟩
    · have hP : ∀ w0, Calls Tryz.prog 35 #[.string ⟨Y.toArray⟩, .string ⟨#[35]⟩] w0 fun e w' => e = .returned (.bool true) ∧ w' = w0 := by
        intro w0
        have h := Tryz.strings_HasPrefix ⟨Y.toArray⟩ ⟨#[35]⟩ w0
        simp only [h1] at h
        exact h
      have HP := Lib.hid hP
      have hY2 : (⟨Y.toArray⟩ : ByteArray).size = Y.length := by rw [Lib.size_eq]
      have HY2 := Lib.hid hY2
      clear hP h1 hY2
      rcases h3 with ⟨h4, h5⟩ | ⟨h4, h5, h6⟩
      · have hI : ∀ w0, Calls Tryz.prog 149 #[.string ⟨Y.toArray⟩, .int .u8 10] w0 fun e w' => e = .returned (.int .i64 (-1)) ∧ w' = w0 := by
          intro w0
          have h := Tryz.strings_IndexByte ⟨Y.toArray⟩ 10 w0
          rw [← h4]
          exact h
        have HI := Lib.hid hI
        have H5 := Lib.hid h5
        clear hI h4 h5
        go_wp2_with (first | (go_at_call 34; refine (HT.out _).mono ?_; rintro e w1 ⟨rfl, hb⟩) | (go_at_call 35; refine (HP.out _).mono ?_; rintro e w' ⟨rfl, rfl⟩) | (go_at_call 149; refine (HI.out _).mono ?_; rintro e w' ⟨rfl, rfl⟩))
        go_roundw
        case rel => exact ⟨⟨#[]⟩, rfl, Nat.zero_le _, by rw [HSK.out, H5.out]; rfl, hbel.trans (hb.mono (by omega))⟩
        case measure => show (⟨#[]⟩ : ByteArray).size < x.size; rw [show (⟨#[]⟩ : ByteArray).size = 0 from rfl]; omega
      · obtain ⟨n, hn⟩ := Int.eq_ofNat_of_zero_le (show 0 ≤ Lib.indexByte Y 10 by omega)
        rw [hn] at h4 h5 h6
        rw [Int.toNat_natCast] at h6
        have hI : ∀ w0, Calls Tryz.prog 149 #[.string ⟨Y.toArray⟩, .int .u8 10] w0 fun e w' => e = .returned (.int .i64 n) ∧ w' = w0 := by
          intro w0
          have h := Tryz.strings_IndexByte ⟨Y.toArray⟩ 10 w0
          rw [← hn]
          exact h
        have HI := Lib.hid hI
        have H6 := Lib.hid h6
        clear hI h6 hn
        go_wp2_with (first | (go_at_call 34; refine (HT.out _).mono ?_; rintro e w1 ⟨rfl, hb⟩) | (go_at_call 35; refine (HP.out _).mono ?_; rintro e w' ⟨rfl, rfl⟩) | (go_at_call 149; refine (HI.out _).mono ?_; rintro e w' ⟨rfl, rfl⟩))
        have hx : ((⟨Y.toArray⟩ : ByteArray).extract n Y.length) = ⟨(Y.drop n).toArray⟩ := by
          apply bytes_eq
          rw [Lib.extract_data]
          show (Y.drop n).take _ = Y.drop n
          exact List.take_of_length_le (by rw [List.length_drop]; omega)
        have hy : (⟨(Y.drop n).toArray⟩ : ByteArray).size = Y.length - n := by rw [Lib.size_eq]; simp
        rw [hx]
        go_roundw
        case rel => exact ⟨_, rfl, by rw [hy]; omega, by rw [HSK.out, H6.out], hbel.trans (hb.mono (by omega))⟩
        case measure => show (⟨(Y.drop n).toArray⟩ : ByteArray).size < x.size; rw [hy]; omega
end Go.Proofs.YtlgfickhkejdjaaGreatDoor

namespace Go.Proofs.YtlgfickhkejdjaaGreatDoor
open Go.RowKit

/-- The package-level variables that the lexer reads. -/
structure LexEnv (w : World) : Prop where
  kw : ∃ b o c, w.cell? ⟨7, 0, none⟩ = some (.slice (some ⟨b, o, none⟩) 24 c) ∧ ∀ j, j < 24 → w.cell? ⟨b, o + j, none⟩ = some (.string (kwz j))
  sy : ∃ b o c, w.cell? ⟨5, 0, none⟩ = some (.slice (some ⟨b, o, none⟩) 19 c) ∧ ∀ j, j < 19 → w.cell? ⟨b, o + j, none⟩ = some (.string (syz j))
  er : ∃ te pe, w.cell? ⟨11, 0, none⟩ = some (.iface te pe)

theorem cell_keep {w w' : World} (hb : Below w.heap.size w w') {a : Addr} {v : Value} (h : w.cell? a = some v) : w'.cell? a = some v := by
  rw [hb.cell (World.block_lt_of_cell? w a h)]; exact h
theorem LexEnv.keep {w w' : World} (h : LexEnv w) (hb : Below w.heap.size w w') : LexEnv w' := by
  obtain ⟨⟨b1, o1, c1, h1, k1⟩, ⟨b2, o2, c2, h2, k2⟩, te, pe, h3⟩ := h
  exact ⟨⟨b1, o1, c1, cell_keep hb h1, fun j hj => cell_keep hb (k1 j hj)⟩, ⟨b2, o2, c2, cell_keep hb h2, fun j hj => cell_keep hb (k2 j hj)⟩, te, pe, cell_keep hb h3⟩

def kwB (l : List UInt8) : Bool := Lex.keywords.contains l
def syB (l : List UInt8) : Bool := Lex.symbols.contains l

theorem toList_mk (l : List UInt8) : (⟨l.toArray⟩ : ByteArray).toList = l := by rw [Lib.toList_data]

set_option maxHeartbeats 400000 in
theorem isKeyword_any (x : ByteArray) (w : World) (hE : LexEnv w) :
    Calls Tryz.prog 168 #[.string x] w fun e w' => e = .returned (.bool (kwB x.data.toList)) ∧ Below w.heap.size w w' := by
  obtain ⟨b, o, c, h1, h2⟩ := hE.kw
  have hB : ∀ w0, (∀ j, j < 24 → w0.cell? ⟨b, o + j, none⟩ = some (.string (kwz j))) → Calls Tryz.prog 180 #[.slice (some ⟨b, o, none⟩) 24 c, .string x] w0 fun e w' =>
      ∃ I : Int, e = .returned (.tuple #[.int .i64 I, .bool (kwB x.data.toList)]) ∧ Below w0.heap.size w0 w' := by
    intro w0 h
    refine (Tryz.slices_BinarySearch_string b o 24 c kwz x w0 (by omega) h).mono ?_
    rintro e w' ⟨rfl, q, rfl⟩
    refine ⟨((Lib.bsGo (fun t => Op.bytesLess (kwz t).toList x.toList) 24 0 24 : Nat) : Int), ?_, below_drewN (Below.refl _ _) q⟩
    have hI : Lib.bsGo (fun t => Op.bytesLess (kwz t).toList x.toList) 24 0 24 = Lib.bsGo (fun t => Op.bytesLess (Lex.keywords.getD t []) x.data.toList) Lex.keywords.length 0 Lex.keywords.length := by
      congr 1
      funext t
      unfold kwz
      rw [toList_mk, Lib.toList_data]
    have hf := bs_found Lex.keywords kw_sorted x.data.toList _ hI
    unfold kwB
    rw [← hf]
    congr 3
    have hx : ∀ I, (kwz I = x) = (Lex.keywords.getD I [] = x.data.toList) := by
      intro I
      apply propext
      unfold kwz
      constructor
      · intro e; rw [← e]
      · intro e; apply bytes_eq; exact e
    simp only [hx]
    rfl
  have HB := Lib.hid hB
  have H2 := Lib.hid h2
  clear hB h2 hE
  go_enter Tryz.func168, Tryz.ntmps168
  go_wp2_with (go_at_call 180; refine (HB.out _ H2.out).mono ?_; rintro e w' ⟨I, rfl, hb⟩)
  go_ret
  exact ⟨rfl, hb⟩

/-- the sets of bytes as the program spells them -/
def wordSet : List UInt8 := [97, 98, 99, 100, 101, 102, 103, 104, 105, 106, 107, 108, 109, 110, 111, 112, 113, 114, 115, 116, 117, 118, 119, 120, 121, 122, 65, 66, 67, 68, 69, 70, 71, 72, 73, 74, 75, 76, 77, 78, 79, 80, 81, 82, 83, 84, 85, 86, 87, 88, 89, 90, 48, 49, 50, 51, 52, 53, 54, 55, 56, 57, 95]
def digitSet : List UInt8 := [48, 49, 50, 51, 52, 53, 54, 55, 56, 57]
def tailSet : List UInt8 := [97, 98, 99, 100, 101, 102, 103, 104, 105, 106, 107, 108, 109, 110, 111, 112, 113, 114, 115, 116, 117, 118, 119, 120, 121, 122, 65, 66, 67, 68, 69, 70, 71, 72, 73, 74, 75, 76, 77, 78, 79, 80, 81, 82, 83, 84, 85, 86, 87, 88, 89, 90, 95]
def upperSet : List UInt8 := [65, 66, 67, 68, 69, 70, 71, 72, 73, 74, 75, 76, 77, 78, 79, 80, 81, 82, 83, 84, 85, 86, 87, 88, 89, 90]

theorem all_bytes {p : UInt8 → Prop} (h : ∀ n, n < 256 → p (UInt8.ofNat n)) (c : UInt8) : p c := by
  have := h c.toNat c.toNat_lt
  rwa [UInt8.ofNat_toNat] at this
theorem wordSet_contains (c : UInt8) : wordSet.contains c = Lex.wordc c := by
  revert c; apply all_bytes; decide +kernel
theorem digitSet_contains (c : UInt8) : digitSet.contains c = Lex.digit c := by
  revert c; apply all_bytes; decide +kernel
theorem tailSet_contains (c : UInt8) : tailSet.contains c = Lex.tailc c := by
  revert c; apply all_bytes; decide +kernel
theorem upper_index (c : UInt8) : Lex.letter c = true → decide (0 ≤ Lib.indexByte upperSet c) = decide (c.toNat ≤ 90) := by
  revert c; apply all_bytes; decide +kernel
theorem set_ascii (l : List UInt8) (h : ∀ b ∈ l, b.toNat < 128) (j : Nat) (b : UInt8) (hj : l[j]? = some b) : b.toNat < 128 := h b (List.mem_of_getElem? hj)

/-- run at a set whose bytes are those that meet p -/
theorem run_set (s : ByteArray) (l : List UInt8) (p : UInt8 → Bool) (hp : ∀ c, l.contains c = p c) (ha : ∀ b ∈ l, b.toNat < 128) (h2 : 2 ≤ l.length) (h3 : l.length < 4294967281) (w : World) (hs : s.size ≤ 9223372036854775807) :
    Calls Tryz.prog 166 #[.string s, .string ⟨l.toArray⟩] w fun e w' => e = .returned (.string ⟨(s.data.toList.takeWhile p).toArray⟩) ∧ Below w.heap.size w w' := by
  have h := run_any s ⟨l.toArray⟩ w hs (by rw [Lib.size_eq]; exact h2) (by rw [Lib.size_eq]; exact h3) (fun j b hj => set_ascii l ha j b hj)
  have e : (fun x => List.contains (⟨l.toArray⟩ : ByteArray).data.toList x) = p := by funext c; exact hp c
  rw [e] at h
  exact h
theorem run_word (s : ByteArray) (w : World) (hs : s.size ≤ 9223372036854775807) :
    Calls Tryz.prog 166 #[.string s, .string ⟨#[97, 98, 99, 100, 101, 102, 103, 104, 105, 106, 107, 108, 109, 110, 111, 112, 113, 114, 115, 116, 117, 118, 119, 120, 121, 122, 65, 66, 67, 68, 69, 70, 71, 72, 73, 74, 75, 76, 77, 78, 79, 80, 81, 82, 83, 84, 85, 86, 87, 88, 89, 90, 48, 49, 50, 51, 52, 53, 54, 55, 56, 57, 95]⟩] w fun e w' => e = .returned (.string ⟨(s.data.toList.takeWhile Lex.wordc).toArray⟩) ∧ Below w.heap.size w w' :=
  run_set s wordSet Lex.wordc wordSet_contains (by decide) (by decide) (by decide) w hs
theorem run_digit (s : ByteArray) (w : World) (hs : s.size ≤ 9223372036854775807) :
    Calls Tryz.prog 166 #[.string s, .string ⟨#[48, 49, 50, 51, 52, 53, 54, 55, 56, 57]⟩] w fun e w' => e = .returned (.string ⟨(s.data.toList.takeWhile Lex.digit).toArray⟩) ∧ Below w.heap.size w w' :=
  run_set s digitSet Lex.digit digitSet_contains (by decide) (by decide) (by decide) w hs
theorem run_tail (s : ByteArray) (w : World) (hs : s.size ≤ 9223372036854775807) :
    Calls Tryz.prog 166 #[.string s, .string ⟨#[97, 98, 99, 100, 101, 102, 103, 104, 105, 106, 107, 108, 109, 110, 111, 112, 113, 114, 115, 116, 117, 118, 119, 120, 121, 122, 65, 66, 67, 68, 69, 70, 71, 72, 73, 74, 75, 76, 77, 78, 79, 80, 81, 82, 83, 84, 85, 86, 87, 88, 89, 90, 95]⟩] w fun e w' => e = .returned (.string ⟨(s.data.toList.takeWhile Lex.tailc).toArray⟩) ∧ Below w.heap.size w w' :=
  run_set s tailSet Lex.tailc tailSet_contains (by decide) (by decide) (by decide) w hs

theorem bcell {W w1 : World} (hb : Below W.heap.size W w1) : (∀ b o, b < W.heap.size → w1.cell? ⟨b, o, none⟩ = W.cell? ⟨b, o, none⟩) ∧ (∀ b o, b < W.heap.size → w1.frozen? ⟨b, o, none⟩ = W.frozen? ⟨b, o, none⟩) :=
  ⟨fun b o h => hb.cell (p := ⟨b, o, none⟩) h, fun b o h => hb.frozen (p := ⟨b, o, none⟩) h⟩

end Go.Proofs.YtlgfickhkejdjaaGreatDoor

namespace Go.Proofs.YtlgfickhkejdjaaGreatDoor
open Go.RowKit

theorem after1 (w : World) (o : Obj) {w1 : World} (hb : Below (w.alloc o).heap.size (w.alloc o) w1) : Below w.heap.size w w1 :=
  ((Below.refl _ _).alloc (Nat.le_refl _) o).trans (hb.mono (by rw [World.size_alloc]; omega))
theorem after1_lt (w : World) (o : Obj) {w1 : World} (hb : Below (w.alloc o).heap.size (w.alloc o) w1) : w.heap.size < w1.heap.size := by
  have h := hb.size
  rw [World.size_alloc] at h
  omega

theorem cell_after (w : World) (cs : Array Value) (t : TypeId) {w1 : World} (hb : Below (w.alloc (.cells cs t)).heap.size (w.alloc (.cells cs t)) w1) :
    (∀ o, w1.cell? ⟨w.heap.size, o, none⟩ = cs[o]?) ∧ (∀ o, w1.frozen? ⟨w.heap.size, o, none⟩ = false) := by
  have hlt : w.heap.size < (w.alloc (.cells cs t)).heap.size := by rw [World.size_alloc]; omega
  refine ⟨fun o => ?_, fun o => ?_⟩
  · rw [hb.cell (p := ⟨w.heap.size, o, none⟩) hlt, World.cell?_alloc_new]
  · rw [hb.frozen (p := ⟨w.heap.size, o, none⟩) hlt]
    unfold World.frozen?
    simp only [heap_alloc_new]
    simp
theorem cell_pass {b : Nat} {cs : Array Value} {w1 : World} (h : ∀ o, w1.cell? ⟨b, o, none⟩ = cs[o]?) (hf : ∀ o, w1.frozen? ⟨b, o, none⟩ = false) (X : Obj) {w2 : World} (hb : Below (w1.alloc X).heap.size (w1.alloc X) w2) (hlt : b < w1.heap.size) :
    (∀ o, w2.cell? ⟨b, o, none⟩ = cs[o]?) ∧ (∀ o, w2.frozen? ⟨b, o, none⟩ = false) := by
  have hlt2 : b < (w1.alloc X).heap.size := by rw [World.size_alloc]; omega
  refine ⟨fun o => ?_, fun o => ?_⟩
  · rw [hb.cell (p := ⟨b, o, none⟩) hlt2, ← h o]
    exact World.cell?_of_block (w := w1) (Below.heap_alloc w1 X b hlt)
  · rw [hb.frozen (p := ⟨b, o, none⟩) hlt2, ← hf o]
    exact World.frozen?_of_block (w := w1) (Below.heap_alloc w1 X b hlt)

set_option maxRecDepth 100000 in
set_option maxHeartbeats 1000000 in
/-- name, where a letter begins -/
theorem name_any (s : ByteArray) (c : UInt8) (r : List UInt8) (w : World) (hE : LexEnv w) (hs : s.size ≤ 9223372036854775806) (hl : s.data.toList = c :: r) (hc : Lex.letter c = true) :
    Calls Tryz.prog 153 #[.string s] w fun e w' => e = .returned (gotV 0 (Lex.nameAt s.data.toList)) ∧ Below w.heap.size w w' := by
  obtain ⟨T, hT⟩ : ∃ T, s.data.toList.takeWhile Lex.wordc = T := ⟨_, rfl⟩
  have hR : ∀ w0, Calls Tryz.prog 166 #[.string s, .string ⟨#[97, 98, 99, 100, 101, 102, 103, 104, 105, 106, 107, 108, 109, 110, 111, 112, 113, 114, 115, 116, 117, 118, 119, 120, 121, 122, 65, 66, 67, 68, 69, 70, 71, 72, 73, 74, 75, 76, 77, 78, 79, 80, 81, 82, 83, 84, 85, 86, 87, 88, 89, 90, 48, 49, 50, 51, 52, 53, 54, 55, 56, 57, 95]⟩] w0 fun e w' => e = .returned (.string ⟨T.toArray⟩) ∧ Below w0.heap.size w0 w' := by
    intro w0; rw [← hT]; exact run_word s w0 (by omega)
  obtain ⟨T', hTc⟩ : ∃ T', T = c :: T' := by
    rw [← hT, hl, List.takeWhile_cons, if_pos (by unfold Lex.wordc; rw [hc]; rfl)]; exact ⟨_, rfl⟩
  have hhead : T.headD 0 = c := by rw [hTc]; rfl
  have hone : (⟨T.toArray⟩ : ByteArray).extract 0 1 = ⟨#[c]⟩ := by
    apply bytes_eq; rw [Lib.extract_data]; show (T.drop 0).take 1 = [c]; rw [hTc]; rfl
  have hsz : (⟨T.toArray⟩ : ByteArray).size = T.length := by rw [Lib.size_eq]
  have hpos : 1 ≤ T.length := by rw [hTc]; simp
  have hU : ∀ w0, Calls Tryz.prog 169 #[.string ⟨#[65, 66, 67, 68, 69, 70, 71, 72, 73, 74, 75, 76, 77, 78, 79, 80, 81, 82, 83, 84, 85, 86, 87, 88, 89, 90]⟩, .string ⟨#[c]⟩] w0 fun e w' => e = .returned (.bool (decide (c.toNat ≤ 90))) ∧ w' = w0 := by
    intro w0
    have h := Tryz.strings_Contains_one ⟨#[65, 66, 67, 68, 69, 70, 71, 72, 73, 74, 75, 76, 77, 78, 79, 80, 81, 82, 83, 84, 85, 86, 87, 88, 89, 90]⟩ c w0
    rw [← upper_index c hc]
    exact h
  have hKw : ∀ w0, LexEnv w0 → Calls Tryz.prog 168 #[.string ⟨T.toArray⟩] w0 fun e w' => e = .returned (.bool (kwB T)) ∧ Below w0.heap.size w0 w' := by
    intro w0 h0; exact isKeyword_any ⟨T.toArray⟩ w0 h0
  have HR := Lib.hid hR
  have HT := Lib.hid hT
  have HU := Lib.hid hU
  have HK := Lib.hid hKw
  have HH := Lib.hid hhead
  have HE := Lib.hid hE
  clear hR hT hl hU hTc hhead hKw hE
  by_cases hbig : 31 < T.length
  · go_enter Tryz.func153, Tryz.ntmps153
    go_wp2_with (go_at_call 166; refine (HR.out _).mono ?_; rintro e w1 ⟨rfl, hb⟩; obtain ⟨hc1, hf1⟩ := cell_after w _ _ hb; have hz1 := after1_lt w _ hb; have hB1 := after1 w _ hb)
    refine bodyPost_ret (v := .tuple #[tokV 0 [] 0 0, .int .i64 8]) (by simp [results, Tryz.results153, go_sem, tokV, hc1, hz1]) rfl ⟨?_, ?_⟩
    · rw [nameAt_big HT.out hbig]; rfl
    · ((repeat' (first | (with_reducible exact hB1) | (with_reducible exact Below.refl _ _) | (with_reducible refine Below.drew ?_) | (with_reducible refine below_drewN ?_ _) | (with_reducible refine Below.alloc ?_ ?_ _) | (with_reducible refine Below.setCell ?_ ?_ _))) <;> (simp <;> omega))
  · cases hk : kwB T
    · have hk2 := Lib.hid hk
      by_cases h90 : c.toNat ≤ 90
      · have hd := decide_eq_true h90
        go_enter Tryz.func153, Tryz.ntmps153
        go_wp2_with (first | (go_at_call 166; refine (HR.out _).mono ?_; rintro e w1 ⟨rfl, hb⟩; obtain ⟨hc1, hf1⟩ := cell_after w _ _ hb; have hz1 := after1_lt w _ hb; have hB1 := after1 w _ hb) | (go_at_call 168; refine (HK.out _ (HE.out.keep (hB1.alloc (Nat.le_of_lt hz1) _))).mono ?_; rintro e w2 ⟨rfl, hb2⟩; obtain ⟨hc2, hf2⟩ := cell_after w1 _ _ hb2; obtain ⟨hc3, hf3⟩ := cell_pass hc1 hf1 _ hb2 hz1; have hz2 := after1_lt w1 _ hb2; have hB2 := hB1.trans ((after1 w1 _ hb2).mono (Nat.le_of_lt hz1))) | (go_at_call 169; refine (HU.out _).mono ?_; rintro e w' ⟨rfl, hw'⟩; rw [hw']))
        refine bodyPost_ret (v := .tuple #[tokV 3 T 0 0, .int .i64 0]) (by simp [results, Tryz.results153, go_sem, tokV, hc3]) rfl ⟨?_, ?_⟩
        · rw [nameAt_of HT.out, if_neg hbig, HH.out, show Lex.keywords.contains T = false from hk2.out, if_neg (by simp), if_pos h90]; rfl
        · ((repeat' (first | (with_reducible exact hB2) | (with_reducible exact Below.refl _ _) | (with_reducible refine Below.drew ?_) | (with_reducible refine below_drewN ?_ _) | (with_reducible refine Below.alloc ?_ ?_ _) | (with_reducible refine Below.setCell ?_ ?_ _))) <;> (simp <;> omega))
      · have hd := decide_eq_false h90
        go_enter Tryz.func153, Tryz.ntmps153
        go_wp2_with (first | (go_at_call 166; refine (HR.out _).mono ?_; rintro e w1 ⟨rfl, hb⟩; obtain ⟨hc1, hf1⟩ := cell_after w _ _ hb; have hz1 := after1_lt w _ hb; have hB1 := after1 w _ hb) | (go_at_call 168; refine (HK.out _ (HE.out.keep (hB1.alloc (Nat.le_of_lt hz1) _))).mono ?_; rintro e w2 ⟨rfl, hb2⟩; obtain ⟨hc2, hf2⟩ := cell_after w1 _ _ hb2; obtain ⟨hc3, hf3⟩ := cell_pass hc1 hf1 _ hb2 hz1; have hz2 := after1_lt w1 _ hb2; have hB2 := hB1.trans ((after1 w1 _ hb2).mono (Nat.le_of_lt hz1))) | (go_at_call 169; refine (HU.out _).mono ?_; rintro e w' ⟨rfl, hw'⟩; rw [hw']))
        refine bodyPost_ret (v := .tuple #[tokV 2 T 0 0, .int .i64 0]) (by simp [results, Tryz.results153, go_sem, tokV, hc3]) rfl ⟨?_, ?_⟩
        · rw [nameAt_of HT.out, if_neg hbig, HH.out, show Lex.keywords.contains T = false from hk2.out, if_neg (by simp), if_neg h90]; rfl
        · ((repeat' (first | (with_reducible exact hB2) | (with_reducible exact Below.refl _ _) | (with_reducible refine Below.drew ?_) | (with_reducible refine below_drewN ?_ _) | (with_reducible refine Below.alloc ?_ ?_ _) | (with_reducible refine Below.setCell ?_ ?_ _))) <;> (simp <;> omega))
    · have hk2 := Lib.hid hk
      go_enter Tryz.func153, Tryz.ntmps153
      go_wp2_with (first | (go_at_call 166; refine (HR.out _).mono ?_; rintro e w1 ⟨rfl, hb⟩; obtain ⟨hc1, hf1⟩ := cell_after w _ _ hb; have hz1 := after1_lt w _ hb; have hB1 := after1 w _ hb) | (go_at_call 168; refine (HK.out _ (HE.out.keep (hB1.alloc (Nat.le_of_lt hz1) _))).mono ?_; rintro e w2 ⟨rfl, hb2⟩; obtain ⟨hc2, hf2⟩ := cell_after w1 _ _ hb2; obtain ⟨hc3, hf3⟩ := cell_pass hc1 hf1 _ hb2 hz1; have hz2 := after1_lt w1 _ hb2; have hB2 := hB1.trans ((after1 w1 _ hb2).mono (Nat.le_of_lt hz1))) | (go_at_call 169; refine (HU.out _).mono ?_; rintro e w' ⟨rfl, hw'⟩; rw [hw']))
      refine bodyPost_ret (v := .tuple #[tokV 4 T 0 0, .int .i64 0]) (by simp [results, Tryz.results153, go_sem, tokV, hc3]) rfl ⟨?_, ?_⟩
      · rw [nameAt_of HT.out, if_neg hbig, show Lex.keywords.contains T = true from hk2.out, if_pos rfl]; rfl
      · ((repeat' (first | (with_reducible exact hB2) | (with_reducible exact Below.refl _ _) | (with_reducible refine Below.drew ?_) | (with_reducible refine below_drewN ?_ _) | (with_reducible refine Below.alloc ?_ ?_ _) | (with_reducible refine Below.setCell ?_ ?_ _))) <;> (simp <;> omega))
end Go.Proofs.YtlgfickhkejdjaaGreatDoor

namespace Go.Proofs.YtlgfickhkejdjaaGreatDoor
open Go.RowKit

theorem contains_sy (T : List UInt8) : Lib.containsS ((List.range 19).map syz) ⟨T.toArray⟩ = syB T := by
  rw [Bool.eq_iff_iff, Lib.containsS_iff]
  unfold syB
  rw [List.contains_iff_mem, List.mem_map]
  constructor
  · rintro ⟨j, hj, he⟩
    have h4 : j < 19 := by simpa using hj
    have hk : j < Lex.symbols.length := h4
    have : (Lex.symbols.getD j []) = T := by
      have h3 := congrArg (fun x : ByteArray => x.data.toList) he
      simpa [syz] using h3
    rw [← this, List.getD_eq_getElem?_getD, List.getElem?_eq_getElem hk]
    exact List.getElem_mem hk
  · intro h
    obtain ⟨j, hj, he⟩ := List.getElem_of_mem h
    have h4 : j < 19 := hj
    refine ⟨j, by simpa using h4, ?_⟩
    unfold syz
    rw [List.getD_eq_getElem?_getD, List.getElem?_eq_getElem hj, Option.getD_some, he]

theorem contains_at (w : World) (b o c : Nat) (T : List UInt8) (h : ∀ j, j < 19 → w.cell? ⟨b, o + j, none⟩ = some (.string (syz j))) :
    Calls Tryz.prog 170 #[.slice (some ⟨b, o, none⟩) 19 c, .string ⟨T.toArray⟩] w fun e w' => e = .returned (.bool (syB T)) ∧ w' = w := by
  have h1 := Tryz.slices_Contains_string b o 19 c ((List.range 19).map syz) ⟨T.toArray⟩ w (by simp) (by omega) (by
    intro j hj
    have hj2 : j < 19 := by simpa using hj
    rw [h j hj2]
    simp [hj2])
  rw [List.take_of_length_le (by simp), contains_sy] at h1
  exact h1

set_option maxRecDepth 100000 in
set_option maxHeartbeats 1000000 in
/-- symbol -/
theorem symbol_any (s : ByteArray) (w : World) (hE : LexEnv w) (hs : s.size ≤ 9223372036854775806) (h0 : 0 < s.size) :
    Calls Tryz.prog 154 #[.string s] w fun e w' => e = .returned (gotV 0 (Lex.symbolAt s.data.toList)) ∧ Below w.heap.size w w' := by
  obtain ⟨b, o, c, h1, h2⟩ := hE.sy
  have hlen := Lib.size_eq s
  obtain ⟨l, hl⟩ : ∃ l, s.data.toList = l := ⟨_, rfl⟩
  rw [hl] at hlen ⊢
  have hx2 : s.extract 0 2 = ⟨(l.take 2).toArray⟩ := by apply bytes_eq; rw [Lib.extract_data, hl]; rfl
  have hx1 : s.extract 0 1 = ⟨(l.take 1).toArray⟩ := by apply bytes_eq; rw [Lib.extract_data, hl]; rfl
  obtain ⟨T2, hT2⟩ : ∃ T, l.take 2 = T := ⟨_, rfl⟩
  obtain ⟨T1, hT1⟩ : ∃ T, l.take 1 = T := ⟨_, rfl⟩
  rw [hT2] at hx2
  rw [hT1] at hx1
  have HL := Lib.hid hlen
  have HT2 := Lib.hid hT2
  have HT1 := Lib.hid hT1
  have H2 := Lib.hid h2
  have hbw := World.block_lt_of_cell? w _ (h2 0 (by omega))
  have hg := World.block_lt_of_cell? w _ h1
  simp only at hbw hg
  clear hlen hl hT2 hT1 h2 hE
  obtain ⟨m, hm, hm2⟩ : ∃ m : Nat, min 2 (s.size : Int) = m ∧ ((m = 2 ∧ 2 ≤ s.size) ∨ (m = 1 ∧ s.size = 1)) := by
    by_cases h : 2 ≤ s.size
    · exact ⟨2, by omega, .inl ⟨rfl, h⟩⟩
    · exact ⟨1, by omega, .inr ⟨rfl, by omega⟩⟩
  have HM := Lib.hid hm2
  clear hm2
  go_enter Tryz.func154, Tryz.ntmps154
  go_wp2
  clear hm
  go_loopw [4] (fun n wr => ∃ k : Nat, n = .int .i64 k ∧ k ≤ 2 ∧ k ≤ s.size ∧ (k < 2 → ¬ (2 ≤ s.size ∧ syB T2 = true)) ∧ (k = 0 → ¬ (syB T1 = true)) ∧ ∃ q, wr = (w.alloc (.cells #[.int .i64 0, .string ⟨#[]⟩, .int .i64 0, .int .i64 0] 129)).drewN q) (fun n _ => (intOf n).toNat)
  case atStart =>
    have hm3 := HM.out
    exact ⟨m, rfl, by omega, by omega, by omega, by omega, 0, rfl⟩
  case round =>
    obtain ⟨k, rfl, hk2, hks, hA, hB, q, rfl⟩ := hrel
    have HA := Lib.hid hA
    have HB := Lib.hid hB
    clear hA hB
    rcases (show k = 0 ∨ k = 1 ∨ k = 2 by omega) with rfl | rfl | rfl
    · go_wp2
      refine bodyPost_ret (v := .tuple #[tokV 0 [] 0 0, .int .i64 3]) (by simp [results, Tryz.results154, go_sem, tokV]) rfl ⟨?_, ?_⟩
      · have h5 := HA.out (by omega)
        have h6 := HB.out trivial
        rw [symbolAt_no (by rw [HT2.out, ← HL.out]; exact h5) (by rw [HT1.out]; show syB T1 = false; simpa using h6)]; rfl
      · ((repeat' (first | (with_reducible exact Below.refl _ _) | (with_reducible refine Below.drew ?_) | (with_reducible refine below_drewN ?_ _) | (with_reducible refine Below.alloc ?_ ?_ _) | (with_reducible refine Below.setCell ?_ ?_ _))) <;> (simp <;> omega))
    · have z1 : (0 : Int) ≤ 1 := by omega
      have z2 : (1 : Int) ≤ (s.size : Int) := by omega
      cases hk : syB T1
      · go_wp2
        go_region_held3 (fun w' => w'.cell? ⟨5, 0, none⟩ = some (.slice (some ⟨b, o, none⟩) 19 c)) (go_keep) (first | (go_at_call 170; refine (contains_at _ _ _ _ _ (by intro j hj; refine Eq.trans ?_ (H2.out j hj); exact World.cell?_of_block (w := w) (Below.heap_alloc w _ b hbw))).mono ?_; rintro e w' ⟨rfl, rfl⟩))
        go_wp2
        go_roundw
        case rel =>
          have h5 := HA.out
          exact ⟨0, by go_num, by omega, by omega, by intro _; exact h5 (by omega), by intro _; simp, _, rfl⟩
        case measure => simp [intOf]
      · have HK := Lib.hid hk
        go_wp2
        go_region_held3 (fun w' => w'.cell? ⟨5, 0, none⟩ = some (.slice (some ⟨b, o, none⟩) 19 c)) (go_keep) (first | (go_at_call 170; refine (contains_at _ _ _ _ _ (by intro j hj; refine Eq.trans ?_ (H2.out j hj); exact World.cell?_of_block (w := w) (Below.heap_alloc w _ b hbw))).mono ?_; rintro e w' ⟨rfl, rfl⟩))
        go_wp2
        refine bodyPost_ret (v := .tuple #[tokV 5 T1 0 0, .int .i64 0]) (by simp [results, Tryz.results154, go_sem, tokV]) rfl ⟨?_, ?_⟩
        · have h5 := HA.out (by omega)
          rw [symbolAt_one (by rw [HT2.out, ← HL.out]; exact h5) (by rw [HT1.out]; exact HK.out), HT1.out]; rfl
        · ((repeat' (first | (with_reducible exact Below.refl _ _) | (with_reducible refine Below.drew ?_) | (with_reducible refine below_drewN ?_ _) | (with_reducible refine Below.alloc ?_ ?_ _) | (with_reducible refine Below.setCell ?_ ?_ _))) <;> (simp <;> omega))
    · have z1 : (0 : Int) ≤ 2 := by omega
      have z2 : (2 : Int) ≤ (s.size : Int) := by omega
      cases hk : syB T2
      · go_wp2
        go_region_held3 (fun w' => w'.cell? ⟨5, 0, none⟩ = some (.slice (some ⟨b, o, none⟩) 19 c)) (go_keep) (first | (go_at_call 170; refine (contains_at _ _ _ _ _ (by intro j hj; refine Eq.trans ?_ (H2.out j hj); exact World.cell?_of_block (w := w) (Below.heap_alloc w _ b hbw))).mono ?_; rintro e w' ⟨rfl, rfl⟩))
        go_wp2
        go_roundw
        case rel => exact ⟨1, by go_num, by omega, by omega, by intro _; simp, by omega, _, rfl⟩
        case measure => simp [intOf]
      · have HK := Lib.hid hk
        go_wp2
        go_region_held3 (fun w' => w'.cell? ⟨5, 0, none⟩ = some (.slice (some ⟨b, o, none⟩) 19 c)) (go_keep) (first | (go_at_call 170; refine (contains_at _ _ _ _ _ (by intro j hj; refine Eq.trans ?_ (H2.out j hj); exact World.cell?_of_block (w := w) (Below.heap_alloc w _ b hbw))).mono ?_; rintro e w' ⟨rfl, rfl⟩))
        go_wp2
        refine bodyPost_ret (v := .tuple #[tokV 5 T2 0 0, .int .i64 0]) (by simp [results, Tryz.results154, go_sem, tokV]) rfl ⟨?_, ?_⟩
        · rw [symbolAt_two (by rw [← HL.out]; omega) (by rw [HT2.out]; exact HK.out), HT2.out]; rfl
        · ((repeat' (first | (with_reducible exact Below.refl _ _) | (with_reducible refine Below.drew ?_) | (with_reducible refine below_drewN ?_ _) | (with_reducible refine Below.alloc ?_ ?_ _) | (with_reducible refine Below.setCell ?_ ?_ _))) <;> (simp <;> omega))
end Go.Proofs.YtlgfickhkejdjaaGreatDoor

namespace Go.Proofs.YtlgfickhkejdjaaGreatDoor
open Go.RowKit

theorem digits_of {l T : List UInt8} (h : l.takeWhile Lex.digit = T) : ∀ c ∈ T, 48 ≤ c.toNat ∧ c.toNat ≤ 57 := by
  intro c hc
  rw [← h] at hc
  have := List.all_eq_true.1 (List.all_takeWhile (p := Lex.digit) (l := l)) c hc
  exact of_decide_eq_true this

theorem parse_small (T : List UInt8) (w : World) (hne : T ≠ []) (hd : ∀ c ∈ T, 48 ≤ c.toNat ∧ c.toNat ≤ 57) (hT : T.length ≤ 140737488355328) (hv : Lex.value T < 9223372036854775808) :
    Calls Tryz.prog 167 #[.string ⟨T.toArray⟩, .int .i64 10, .int .i64 64] w fun e w' => e = .returned (.tuple #[.int .i64 (Lex.value T : Nat), .nilIface]) ∧ Below w.heap.size w w' := by
  refine (Tryz.strconv_ParseInt_10_at64_ok ⟨T.toArray⟩ (by rw [Lib.size_eq]; show T.length ≤ _; omega) (Lex.value T) (by show Lib.parseIntB 64 T = _; rw [parseInt_digits T hne hd, if_pos hv]) w).mono ?_
  rintro e w' ⟨rfl, rfl | ⟨t, rfl⟩⟩
  · exact ⟨rfl, Below.refl _ _⟩
  · exact ⟨rfl, Lib.bytesWorld_below _ _ _⟩

theorem parse_large (T : List UInt8) (w : World) (hE : LexEnv w) (hne : T ≠ []) (hd : ∀ c ∈ T, 48 ≤ c.toNat ∧ c.toNat ≤ 57) (hT : T.length ≤ 140737488355328) (hv : ¬ Lex.value T < 9223372036854775808) :
    Calls Tryz.prog 167 #[.string ⟨T.toArray⟩, .int .i64 10, .int .i64 64] w fun e w' => (∃ (x : Int) (u : TypeId) (p : Value), e = .returned (.tuple #[.int .i64 x, .iface u p])) ∧ Below w.heap.size w w' := by
  obtain ⟨te, pe, hc⟩ := hE.er
  refine (Tryz.strconv_ParseInt_10_at64_range ⟨T.toArray⟩ (by rw [Lib.size_eq]; show T.length ≤ _; omega) (by show Lib.parseIntB 64 T = _; rw [parseInt_digits T hne hd, if_neg hv]) _ w hc (.inr ⟨te, pe, rfl⟩)).mono ?_
  rintro e w' ⟨N, rfl, _, _, hb⟩
  exact ⟨⟨_, _, _, rfl⟩, hb⟩

theorem takeWhile_drop_head (l T : List UInt8) : (l.drop T.length).head?.any Lex.tailc = !((l.drop T.length).takeWhile Lex.tailc).isEmpty := by
  cases hd : l.drop T.length with
  | nil => rfl
  | cons a r =>
    simp only [List.head?_cons, Option.any_some, List.takeWhile_cons]
    cases Lex.tailc a <;> rfl

set_option maxRecDepth 100000 in
set_option maxHeartbeats 1000000 in
/-- number, where a digit begins -/
theorem number_any (s : ByteArray) (c : UInt8) (r : List UInt8) (w : World) (hE : LexEnv w) (hs : s.size ≤ 140737488355328) (hl : s.data.toList = c :: r) (hc : Lex.digit c = true) :
    Calls Tryz.prog 152 #[.string s] w fun e w' => e = .returned (gotV 0 (Lex.numberAt s.data.toList)) ∧ Below w.heap.size w w' := by
  obtain ⟨T, hT⟩ : ∃ T, s.data.toList.takeWhile Lex.digit = T := ⟨_, rfl⟩
  have hlen := Lib.size_eq s
  have hTl : T.length ≤ s.size := by rw [← hT, hlen]; exact Lex.takeWhile_le _ _
  have hR : ∀ w0, Calls Tryz.prog 166 #[.string s, .string ⟨#[48, 49, 50, 51, 52, 53, 54, 55, 56, 57]⟩] w0 fun e w' => e = .returned (.string ⟨T.toArray⟩) ∧ Below w0.heap.size w0 w' := by
    intro w0; rw [← hT]; exact run_digit s w0 (by omega)
  obtain ⟨T', hTc⟩ : ∃ T', T = c :: T' := by
    rw [← hT, hl, List.takeWhile_cons, if_pos hc]; exact ⟨_, rfl⟩
  have hget : ∀ h : 0 < (⟨T.toArray⟩ : ByteArray).size, (⟨T.toArray⟩ : ByteArray)[0]'h = c := by rw [hTc]; intro h; rfl
  have hhead : T.headD 0 = c := by rw [hTc]; rfl
  have hne : T ≠ [] := by rw [hTc]; simp
  have hsz : (⟨T.toArray⟩ : ByteArray).size = T.length := by rw [Lib.size_eq]
  have hpos : 1 ≤ T.length := by rw [hTc]; simp
  obtain ⟨R, hRR⟩ : ∃ R, (s.data.toList.drop T.length).takeWhile Lex.tailc = R := ⟨_, rfl⟩
  have hR2 : ∀ w0, Calls Tryz.prog 166 #[.string (s.extract T.length s.size), .string ⟨#[97, 98, 99, 100, 101, 102, 103, 104, 105, 106, 107, 108, 109, 110, 111, 112, 113, 114, 115, 116, 117, 118, 119, 120, 121, 122, 65, 66, 67, 68, 69, 70, 71, 72, 73, 74, 75, 76, 77, 78, 79, 80, 81, 82, 83, 84, 85, 86, 87, 88, 89, 90, 95]⟩] w0 fun e w' => e = .returned (.string ⟨R.toArray⟩) ∧ Below w0.heap.size w0 w' := by
    intro w0
    have h := run_tail (s.extract T.length s.size) w0 (by rw [Lib.size_eq, Lib.extract_data]; simp; omega)
    rw [Lib.extract_to_end, hRR] at h
    exact h
  have htl := takeWhile_drop_head s.data.toList T
  rw [hRR] at htl
  have hdig := digits_of hT
  have HR := Lib.hid hR
  have HT := Lib.hid hT
  have HR2 := Lib.hid hR2
  have HE := Lib.hid hE
  have HTL := Lib.hid htl
  have HD := Lib.hid hdig
  have HH := Lib.hid hhead
  have HNE := Lib.hid hne
  clear hR hT hl hTc hE htl hR2 hlen hRR hdig hhead hne
  by_cases hz : 1 < T.length ∧ T.headD 0 = 48
  · obtain ⟨hz1', hz2'⟩ := hz
    have h48 : ((c.toNat : Int) == 48) = true := by rw [HH.out] at hz2'; rw [hz2']; rfl
    have HZ := Lib.hid hz2'
    clear hz2'
    go_enter Tryz.func152, Tryz.ntmps152
    go_wp2_with fail
    refine (HR.out _).mono ?_; rintro e w1 ⟨rfl, hb⟩; obtain ⟨hc1, hf1⟩ := cell_after w _ _ hb; have hz1 := after1_lt w _ hb; have hB1 := after1 w _ hb
    go_wp2_with fail
    refine bodyPost_ret (v := .tuple #[tokV 0 [] 0 0, .int .i64 3]) (by simp [results, Tryz.results152, go_sem, tokV, hc1]) rfl ⟨?_, ?_⟩
    · cases htl : R.isEmpty
      · rw [numberAt_tail HT.out (by rw [HTL.out, htl]; rfl)]; rfl
      · rw [numberAt_of HT.out (by rw [HTL.out, htl]; rfl), if_pos ⟨hz1', HZ.out⟩]; rfl
    · ((repeat' (first | (with_reducible exact hB1) | (with_reducible exact Below.refl _ _) | (with_reducible refine Below.drew ?_) | (with_reducible refine below_drewN ?_ _) | (with_reducible refine Below.alloc ?_ ?_ _) | (with_reducible refine Below.setCell ?_ ?_ _))) <;> (simp <;> omega))
  · have HZ := Lib.hid hz
    have hz5 : ¬ 1 < T.length ∨ (1 < T.length ∧ ((c.toNat : Int) == 48) = false) := by
      by_cases h : 1 < T.length
      · refine .inr ⟨h, beq_no _ _ fun e => hz ⟨h, ?_⟩⟩
        rw [HH.out]
        exact UInt8.toNat_inj.1 (by show _ = 48; omega)
      · exact .inl h
    clear hz
    cases R with
    | cons a R' =>
      have hne2 : ((⟨(a :: R').toArray⟩ : ByteArray).toList == []) = false := by rw [toList_mk]; rfl
      rcases hz5 with hz5 | ⟨hz5, hz6⟩
      all_goals
        go_enter Tryz.func152, Tryz.ntmps152
        go_wp2_with fail
        refine (HR.out _).mono ?_; rintro e w1 ⟨rfl, hb⟩; obtain ⟨hc1, hf1⟩ := cell_after w _ _ hb; have hz1 := after1_lt w _ hb; have hB1 := after1 w _ hb
        go_wp2_with fail
        refine (HR2.out _).mono ?_; rintro e w2 ⟨rfl, hb2⟩; have hc2 := fun o => (hb2.cell (p := ⟨w.heap.size, o, none⟩) hz1).trans (hc1 o); have hf2 := fun o => (hb2.frozen (p := ⟨w.heap.size, o, none⟩) hz1).trans (hf1 o); have hz2 := Nat.lt_of_lt_of_le hz1 hb2.size; have hB2 := hB1.trans (hb2.mono hB1.size)
        go_wp2_with fail
        refine bodyPost_ret (v := .tuple #[tokV 0 [] 0 0, .int .i64 3]) (by simp [results, Tryz.results152, go_sem, tokV, hc2]) rfl ⟨?_, ?_⟩
        · rw [numberAt_tail HT.out (by rw [HTL.out]; rfl)]; rfl
        · ((repeat' (first | (with_reducible exact hB2) | (with_reducible exact Below.refl _ _) | (with_reducible refine Below.drew ?_) | (with_reducible refine below_drewN ?_ _) | (with_reducible refine Below.alloc ?_ ?_ _) | (with_reducible refine Below.setCell ?_ ?_ _))) <;> (simp <;> omega))
    | nil =>
      have hmax : T.length ≤ 140737488355328 := by omega
      by_cases hv : Lex.value T < 9223372036854775808
      · have HV := Lib.hid hv
        clear hv
        by_cases hm : Lex.value T ≤ 2305843009213693951
        · have hm2 : decide (2305843009213693951 < ((Lex.value T : Nat) : Int)) = false := decide_eq_false (by omega)
          have HM := Lib.hid hm
          rcases hz5 with hz5 | ⟨hz5, hz6⟩
          all_goals
            go_enter Tryz.func152, Tryz.ntmps152
            go_wp2_with fail
            refine (HR.out _).mono ?_; rintro e w1 ⟨rfl, hb⟩; obtain ⟨hc1, hf1⟩ := cell_after w _ _ hb; have hz1 := after1_lt w _ hb; have hB1 := after1 w _ hb
            go_wp2_with fail
            refine (HR2.out _).mono ?_; rintro e w2 ⟨rfl, hb2⟩; have hc2 := fun o => (hb2.cell (p := ⟨w.heap.size, o, none⟩) hz1).trans (hc1 o); have hf2 := fun o => (hb2.frozen (p := ⟨w.heap.size, o, none⟩) hz1).trans (hf1 o); have hz2 := Nat.lt_of_lt_of_le hz1 hb2.size; have hB2 := hB1.trans (hb2.mono hB1.size)
            go_wp2_with fail
            refine (parse_small T _ HNE.out HD.out (by omega) HV.out).mono ?_; rintro e w3 ⟨rfl, hb3⟩; have hc3 := fun o => (hb3.cell (p := ⟨w.heap.size, o, none⟩) hz2).trans (hc2 o); have hf3 := fun o => (hb3.frozen (p := ⟨w.heap.size, o, none⟩) hz2).trans (hf2 o); have hB3 := hB2.trans (hb3.mono hB2.size)
            go_wp2_with fail
            refine bodyPost_ret (v := .tuple #[tokV 1 T (Lex.value T) 0, .int .i64 0]) (by simp [results, Tryz.results152, go_sem, tokV, hc3]) rfl ⟨?_, ?_⟩
            · rw [numberAt_of HT.out (by rw [HTL.out]; rfl), if_neg HZ.out, if_neg (by have := HM.out; omega)]; rfl
            · ((repeat' (first | (with_reducible exact hB3) | (with_reducible exact Below.refl _ _) | (with_reducible refine Below.drew ?_) | (with_reducible refine below_drewN ?_ _) | (with_reducible refine Below.alloc ?_ ?_ _) | (with_reducible refine Below.setCell ?_ ?_ _))) <;> (simp <;> omega))
        · have hm2 : decide (2305843009213693951 < ((Lex.value T : Nat) : Int)) = true := decide_eq_true (by omega)
          have HM := Lib.hid hm
          rcases hz5 with hz5 | ⟨hz5, hz6⟩
          all_goals
            go_enter Tryz.func152, Tryz.ntmps152
            go_wp2_with fail
            refine (HR.out _).mono ?_; rintro e w1 ⟨rfl, hb⟩; obtain ⟨hc1, hf1⟩ := cell_after w _ _ hb; have hz1 := after1_lt w _ hb; have hB1 := after1 w _ hb
            go_wp2_with fail
            refine (HR2.out _).mono ?_; rintro e w2 ⟨rfl, hb2⟩; have hc2 := fun o => (hb2.cell (p := ⟨w.heap.size, o, none⟩) hz1).trans (hc1 o); have hf2 := fun o => (hb2.frozen (p := ⟨w.heap.size, o, none⟩) hz1).trans (hf1 o); have hz2 := Nat.lt_of_lt_of_le hz1 hb2.size; have hB2 := hB1.trans (hb2.mono hB1.size)
            go_wp2_with fail
            refine (parse_small T _ HNE.out HD.out (by omega) HV.out).mono ?_; rintro e w3 ⟨rfl, hb3⟩; have hc3 := fun o => (hb3.cell (p := ⟨w.heap.size, o, none⟩) hz2).trans (hc2 o); have hf3 := fun o => (hb3.frozen (p := ⟨w.heap.size, o, none⟩) hz2).trans (hf2 o); have hB3 := hB2.trans (hb3.mono hB2.size)
            go_wp2_with fail
            refine bodyPost_ret (v := .tuple #[tokV 0 [] 0 0, .int .i64 2]) (by simp [results, Tryz.results152, go_sem, tokV, hc3]) rfl ⟨?_, ?_⟩
            · rw [numberAt_of HT.out (by rw [HTL.out]; rfl), if_neg HZ.out, if_pos (by have := HM.out; omega)]; rfl
            · ((repeat' (first | (with_reducible exact hB3) | (with_reducible exact Below.refl _ _) | (with_reducible refine Below.drew ?_) | (with_reducible refine below_drewN ?_ _) | (with_reducible refine Below.alloc ?_ ?_ _) | (with_reducible refine Below.setCell ?_ ?_ _))) <;> (simp <;> omega))
      · have HV := Lib.hid hv
        clear hv
        rcases hz5 with hz5 | ⟨hz5, hz6⟩
        all_goals
          go_enter Tryz.func152, Tryz.ntmps152
          go_wp2_with fail
          refine (HR.out _).mono ?_; rintro e w1 ⟨rfl, hb⟩; obtain ⟨hc1, hf1⟩ := cell_after w _ _ hb; have hz1 := after1_lt w _ hb; have hB1 := after1 w _ hb
          go_wp2_with fail
          refine (HR2.out _).mono ?_; rintro e w2 ⟨rfl, hb2⟩; have hc2 := fun o => (hb2.cell (p := ⟨w.heap.size, o, none⟩) hz1).trans (hc1 o); have hf2 := fun o => (hb2.frozen (p := ⟨w.heap.size, o, none⟩) hz1).trans (hf1 o); have hz2 := Nat.lt_of_lt_of_le hz1 hb2.size; have hB2 := hB1.trans (hb2.mono hB1.size)
          go_wp2_with fail
          refine (parse_large T _ (HE.out.keep hB2) HNE.out HD.out (by omega) HV.out).mono ?_; rintro e w3 ⟨⟨x, u, p, rfl⟩, hb3⟩; have hc3 := fun o => (hb3.cell (p := ⟨w.heap.size, o, none⟩) hz2).trans (hc2 o); have hf3 := fun o => (hb3.frozen (p := ⟨w.heap.size, o, none⟩) hz2).trans (hf2 o); have hB3 := hB2.trans (hb3.mono hB2.size)
          go_wp2_with fail
          refine bodyPost_ret (v := .tuple #[tokV 0 [] 0 0, .int .i64 2]) (by simp [results, Tryz.results152, go_sem, tokV, hc3]) rfl ⟨?_, ?_⟩
          · rw [numberAt_of HT.out (by rw [HTL.out]; rfl), if_neg HZ.out, if_pos (by have := HV.out; omega)]; rfl
          · ((repeat' (first | (with_reducible exact hB3) | (with_reducible exact Below.refl _ _) | (with_reducible refine Below.drew ?_) | (with_reducible refine below_drewN ?_ _) | (with_reducible refine Below.alloc ?_ ?_ _) | (with_reducible refine Below.setCell ?_ ?_ _))) <;> (simp <;> omega))
end Go.Proofs.YtlgfickhkejdjaaGreatDoor

namespace Go.Proofs.YtlgfickhkejdjaaGreatDoor
open Go.RowKit Go.Maps

/-- a function value without captured variables, told by its number -/
def fnV (n : Nat) : Value := .func (.func n) #[] #[]
def fnTag (v : Value) : Option (DataW Unit × List MemPlace) :=
  match v with
  | .func (.func n) a b => if a.size = 0 ∧ b.size = 0 ∧ n ≠ 0 then some (.lit (.int .i64 n), []) else none
  | .nilFunc => some (.lit (.int .i64 0), [])
  | _ => none
theorem fnTag_fnV (n : Nat) (h : n ≠ 0) : fnTag (fnV n) = some (.lit (.int .i64 n), []) := by simp [fnTag, fnV, h]
theorem fnTag_inv {v : Value} {n : Nat} {ps : List MemPlace} (h : fnTag v = some (.lit (.int .i64 n), ps)) : v = if n = 0 then .nilFunc else fnV n := by
  unfold fnTag at h
  split at h
  · rename_i m a b
    split at h
    · rename_i hc
      simp only [Option.some.injEq, Prod.mk.injEq, DataW.lit.injEq, Lit.int.injEq, true_and] at h
      obtain ⟨ha, hb, hm⟩ := hc
      have hmn : m = n := Int.ofNat_inj.1 h.1
      subst hmn
      rw [if_neg hm]
      unfold fnV
      rw [Array.eq_empty_of_size_eq_zero ha, Array.eq_empty_of_size_eq_zero hb]
    · cases h
  · simp only [Option.some.injEq, Prod.mk.injEq, DataW.lit.injEq, Lit.int.injEq, true_and] at h
    have h0 : n = 0 := (Int.ofNat_inj.1 h.1).symm
    rw [if_pos h0]
  · cases h

theorem keyU8 : Keyed Tryz.prog 5 := int_keyed Tryz.underlying5
theorem wfU8 (c : UInt8) : (Lit.int .u8 c.toNat).wf = true := by
  have := c.toNat_lt
  have h1 : IntKind.min .u8 = 0 := by decide
  have h2 : IntKind.max .u8 = 255 := by decide
  simp only [Lit.wf, h1, h2, Bool.and_eq_true, decide_eq_true_eq]
  omega
theorem keyOfU8 (c : UInt8) : keyOf Tryz.prog 5 (.int .u8 c.toNat) = some (.int .u8 c.toNat) :=
  keyOf_int_mk Tryz.underlying5 (wfU8 c)

/-- block M is a map of at most n entries that holds at byte c the function number f c (0: none) -/
def TableAt (w : World) (M n : Nat) (f : UInt8 → Nat) : Prop :=
  ∃ D : DataW Unit, IsMap D ∧ w.ownsMap Tryz.prog 5 fnTag M n D ∧ ∀ c : UInt8, D.atKey (.int .u8 c.toNat) (.lit (.int .i64 0)) = .lit (.int .i64 (f c))

theorem key_ne {a b : UInt8} (h : a ≠ b) : (Lit.int .u8 a.toNat) ≠ (Lit.int .u8 b.toNat) := by
  intro e
  simp only [Lit.int.injEq, true_and] at e
  exact h (UInt8.toNat_inj.1 (by omega))

theorem grown_trans {a b c : World} {r : Option Nat} (h : a.grownBy b r) (k : b.grownBy c r) : a.grownBy c r :=
  ⟨k.os.trans h.os, k.tape.trans h.tape, k.output.trans h.output, Nat.le_trans h.size k.size, fun i hi hr => (k.block i (Nat.lt_of_lt_of_le hi h.size) hr).trans (h.block i hi hr)⟩
theorem grown_refl (w : World) (r : Option Nat) : w.grownBy w r := ⟨rfl, rfl, rfl, Nat.le_refl _, fun _ _ _ => rfl⟩
theorem grown_drew {a b : World} {r : Option Nat} (h : a.grownBy b r) : a.grownBy b.drew r := ⟨h.os, h.tape, h.output, h.size, h.block⟩

/-- what the table holds behind k bytes of s -/
def putF (s : ByteArray) (t k : Nat) (f : UInt8 → Nat) (c : UInt8) : Nat := if (s.data.toList.take k).contains c then t else f c
theorem putF_zero (s : ByteArray) (t : Nat) (f : UInt8 → Nat) : putF s t 0 f = f := by funext c; unfold putF; simp
theorem putF_succ (s : ByteArray) (t k : Nat) (f : UInt8 → Nat) (h : k < s.size) (c : UInt8) : putF s t (k + 1) f c = if c = s[k] then t else putF s t k f c := by
  unfold putF
  rw [take_snoc s k h]
  by_cases e : c = s[k]
  · rw [if_pos e, if_pos (by rw [e]; simp)]
  · rw [if_neg e]
    congr 1
    simp [List.mem_append, e]

theorem cell_not_map {w : World} {P : Program} {k : TypeId} {R : Value → Option (DataW Unit × List MemPlace)} {M n cb : Nat} {D : DataW Unit} {v : Value} (h : w.cell? ⟨cb, 0, none⟩ = some v) (hM : w.ownsMap P k R M n D) : cb ≠ M := by
  intro e
  subst e
  obtain ⟨es, clock, hb, _⟩ := hM
  unfold World.cell? at h
  simp only [hb] at h
  cases h

set_option maxRecDepth 100000 in
set_option maxHeartbeats 1000000 in
theorem set_any (s : ByteArray) (t cb M n : Nat) (f : UInt8 → Nat) (w : World) (ht : t ≠ 0) (hs : s.size ≤ 1000) (hn : n ≤ 1000) (hcb : w.cell? ⟨cb, 0, none⟩ = some (.map (some M))) (hM : TableAt w M n f) :
    Calls Tryz.prog 151 #[.string s, fnV t, .pointer (some ⟨cb, 0, none⟩)] w fun e w' => e = .returned (.tuple #[]) ∧ TableAt w' M (n + s.size) (putF s t s.size f) ∧ w.grownBy w' (some M) := by
  have hne0 : cb ≠ M := by obtain ⟨D, _, hown, _⟩ := hM; exact cell_not_map hcb hown
  go_enter Tryz.func151, Tryz.ntmps151
  go_wp2
  go_loopw [8] (fun i wr => ∃ k : Nat, k ≤ s.size ∧ i = .int .i64 k ∧ TableAt wr M (n + k) (putF s t k f) ∧ w.grownBy wr (some M)) (fun i _ => s.size - (intOf i).toNat)
  case atStart => exact ⟨0, Nat.zero_le _, rfl, by rw [putF_zero]; exact hM, grown_refl _ _⟩
  case round =>
    obtain ⟨k, hk, rfl, hT, hg⟩ := hrel
    by_cases hlt : k < s.size
    · have hT2 := Lib.hid hT
      have hG := Lib.hid hg
      clear hT hg
      obtain ⟨D, hD, hown, hat⟩ := hT2.out
      have hcell := hG.out.cell hcb (by simpa using hne0)
      have HAT := Lib.hid hat
      clear hat
      go_wp2
      go_still_tail 5, (by kernel_rfl)
      refine wpList_mapUpdate_own _ rfl _ _ _ 155 rfl 5 158 keyU8 Tryz.underlying155 fnTag M (n + k) D rfl hown.drew (by unfold maxLen; omega) (.int .u8 s[k].toNat) (fnV t) (.int .u8 s[k].toNat) rfl rfl (keyOfU8 _) (.lit (.int .i64 t)) [] (fnTag_fnV t ht) ?_
      intro w1 hown1 hgrow1
      go_wp2
      go_roundw
      case rel =>
        refine ⟨k + 1, by omega, by go_num, ⟨_, hD.put _ _, hown1, fun c => ?_⟩, grown_trans (grown_drew hG.out) hgrow1⟩
        rw [putF_succ s t k f hlt]
        by_cases e : c = s[k]
        · rw [if_pos e, e]; exact atKey_put_same hD ((keyU8).key (keyOfU8 _)) _ _
        · rw [if_neg e, atKey_put_other (key_ne e)]; exact HAT.out c
      case measure => simp [intOf]; omega
    · go_wp2
      go_end0
      exact ⟨rfl, by have e : k = s.size := by omega
                     subst e
                     exact hT, hg⟩
end Go.Proofs.YtlgfickhkejdjaaGreatDoor

namespace Go.Proofs.YtlgfickhkejdjaaGreatDoor
open Go.RowKit Go.Maps

def symStarts : List UInt8 := [33, 37, 40, 41, 42, 43, 44, 45, 46, 47, 59, 60, 61, 62, 123, 125]
/-- the function that reads a token with this first byte -/
def tableF (c : UInt8) : Nat := if Lex.letter c then 153 else if Lex.digit c then 152 else if symStarts.contains c then 154 else 0

theorem tableF_eq (c : UInt8) : putF ⟨#[33, 37, 40, 41, 42, 43, 44, 45, 46, 47, 59, 60, 61, 62, 123, 125]⟩ 154 16 (putF ⟨#[97, 98, 99, 100, 101, 102, 103, 104, 105, 106, 107, 108, 109, 110, 111, 112, 113, 114, 115, 116, 117, 118, 119, 120, 121, 122, 65, 66, 67, 68, 69, 70, 71, 72, 73, 74, 75, 76, 77, 78, 79, 80, 81, 82, 83, 84, 85, 86, 87, 88, 89, 90]⟩ 153 52 (putF ⟨#[48, 49, 50, 51, 52, 53, 54, 55, 56, 57]⟩ 152 10 (fun _ => 0))) c = tableF c := by
  revert c; apply all_bytes; decide +kernel

theorem table_made (w : World) : TableAt (w.alloc (.map #[] 0)) w.heap.size 0 (fun _ => 0) :=
  ⟨.map [], isMap_empty, World.ownsMap_made w _ _ _, fun _ => rfl⟩
theorem TableAt.alloc {w : World} {M n : Nat} {f : UInt8 → Nat} (h : TableAt w M n f) (o : Obj) : TableAt (w.alloc o) M n f := by
  obtain ⟨D, h1, h2, h3⟩ := h; exact ⟨D, h1, h2.alloc o, h3⟩
theorem TableAt.keep {w w' : World} {M n : Nat} {f : UInt8 → Nat} (h : TableAt w M n f) (hb : Below w.heap.size w w') : TableAt w' M n f := by
  obtain ⟨D, h1, h2, h3⟩ := h; exact ⟨D, h1, h2.kept (row := none) (below_grown hb) (by simp), h3⟩

set_option maxRecDepth 100000 in
set_option maxHeartbeats 1000000 in
theorem scanners_any (w : World) :
    Calls Tryz.prog 135 #[] w fun e w' => e = .returned (.map (some w.heap.size)) ∧ TableAt w' w.heap.size 78 tableF ∧ Below w.heap.size w w' := by
  have hmm := @run_makeMap Tryz.prog
  go_enter Tryz.func135, Tryz.ntmps135
  go_wp2_with fail
  refine (set_any _ 152 _ w.heap.size 0 (fun _ => 0) _ (by decide) (by decide) (by decide) (by simp) ((table_made w).alloc _)).mono ?_
  rintro e w1 ⟨rfl, hT1, hg1⟩
  have hc1 := hg1.cell (a := ⟨w.heap.size + 1, 0, none⟩) (v := .map (some w.heap.size)) (by simp) (by simp)
  have HT1 := Lib.hid hT1
  clear hT1
  go_wp2_with fail
  refine (set_any _ 153 _ w.heap.size _ _ _ (by decide) (by decide) (by decide) hc1 HT1.out).mono ?_
  rintro e w2 ⟨rfl, hT2, hg2⟩
  have hc2 := hg2.cell (a := ⟨w.heap.size + 1, 0, none⟩) (v := .map (some w.heap.size)) hc1 (by simp)
  have HT2 := Lib.hid hT2
  clear hT2
  go_wp2_with fail
  refine (set_any _ 154 _ w.heap.size _ _ _ (by decide) (by decide) (by decide) hc2 HT2.out).mono ?_
  rintro e w3 ⟨rfl, hT3, hg3⟩
  have hc3 := hg3.cell (a := ⟨w.heap.size + 1, 0, none⟩) (v := .map (some w.heap.size)) hc2 (by simp)
  have HT3 := Lib.hid hT3
  clear hT3
  go_wp2_with fail
  go_ret
  refine ⟨rfl, ?_, ?_⟩
  · obtain ⟨D, d1, d2, d3⟩ := HT3.out
    exact ⟨D, d1, d2, fun c => by rw [d3 c]; exact congrArg (fun n : Nat => DataW.lit (.int .i64 n)) (tableF_eq c)⟩
  · exact (((((Below.refl _ _).alloc (Nat.le_refl _) _).alloc (by simp) _).grown hg1 (by simp <;> omega) (fun q hq => by cases hq; exact Nat.le_refl _)).grown hg2 (by have := hg1.size; simp at this; omega) (fun q hq => by cases hq; exact Nat.le_refl _)).grown hg3 (by have := hg1.size; have := hg2.size; simp at *; omega) (fun q hq => by cases hq; exact Nat.le_refl _)
end Go.Proofs.YtlgfickhkejdjaaGreatDoor

namespace Go.Proofs.YtlgfickhkejdjaaGreatDoor
open Go.RowKit Go.Maps

theorem fnZero (w : World) : (zeroValue 158).run Tryz.prog w = .ok .nilFunc w := by kernel_rfl
theorem fnTag_nil : fnTag .nilFunc = some (.lit (.int .i64 0), []) := rfl

theorem fn_eq_nil (w : World) : (binOp .eql 158 .nilFunc .nilFunc).run Tryz.prog w = .ok (.bool true) w := by kernel_rfl
theorem fn_eq_fn (n : Nat) (w : World) : (binOp .eql 158 (.func (.func n) #[] #[]) .nilFunc).run Tryz.prog w = .ok (.bool false) w := by kernel_rfl
theorem table_look {w : World} {M n : Nat} {f : UInt8 → Nat} (h : TableAt w M n f) (c : UInt8) :
    (Instr.lookup 155 (.map (some M)) (.int .u8 c.toNat) false).run Tryz.prog w = .ok (if f c = 0 then .nilFunc else fnV (f c)) w := by
  obtain ⟨D, h1, h2, h3⟩ := h
  obtain ⟨v, ps, hrun, hv⟩ := h2.lookup keyU8 Tryz.underlying155 (fnZero w) fnTag_nil (keyOfU8 c)
  rw [h3 c] at hv
  rw [hrun, fnTag_inv hv]

theorem sym_head : ∀ x ∈ Lex.symbols, symStarts.contains (x.headD 0) = true := by decide +kernel
theorem no_token {c : UInt8} {r : List UInt8} (h : tableF c = 0) : Lex.next (c :: r) = .bad 3 := by
  unfold tableF at h
  unfold Lex.next
  rw [List.headD_cons]
  by_cases h1 : Lex.letter c = true
  · rw [if_pos h1] at h; exact absurd h (by decide)
  · rw [if_neg h1] at h ⊢
    by_cases h2 : Lex.digit c = true
    · rw [if_pos h2] at h; exact absurd h (by decide)
    · rw [if_neg h2] at h ⊢
      by_cases h3 : symStarts.contains c = true
      · rw [if_pos h3] at h; exact absurd h (by decide)
      · have hno : ∀ x, x.headD 0 = c → Lex.symbols.contains x = false := by
          intro x hx
          rw [Bool.eq_false_iff]
          intro hc
          rw [List.contains_iff_mem] at hc
          have := sym_head x hc
          rw [hx] at this
          exact h3 this
        refine symbolAt_no ?_ (hno _ rfl)
        rintro ⟨_, h5⟩
        rw [hno ((c :: r).take 2) (by simp)] at h5
        cases h5

/-- which function reads the token, and what it returns -/
theorem reads_token (x : ByteArray) (c : UInt8) (r : List UInt8) (hl : x.data.toList = c :: r) (hs : x.size ≤ 16384) :
    (tableF c = 0 ∧ Lex.next (c :: r) = .bad 3) ∨
    (tableF c = 153 ∧ ∀ w0, LexEnv w0 → Calls Tryz.prog 153 #[.string x] w0 fun e w' => e = .returned (gotV 0 (Lex.next (c :: r))) ∧ Below w0.heap.size w0 w') ∨
    (tableF c = 152 ∧ ∀ w0, LexEnv w0 → Calls Tryz.prog 152 #[.string x] w0 fun e w' => e = .returned (gotV 0 (Lex.next (c :: r))) ∧ Below w0.heap.size w0 w') ∨
    (tableF c = 154 ∧ ∀ w0, LexEnv w0 → Calls Tryz.prog 154 #[.string x] w0 fun e w' => e = .returned (gotV 0 (Lex.next (c :: r))) ∧ Below w0.heap.size w0 w') := by
  have hpos : 0 < x.size := by rw [Lib.size_eq, hl]; simp
  by_cases h1 : Lex.letter c = true
  · refine .inr (.inl ⟨by unfold tableF; rw [if_pos h1], fun w0 hE => ?_⟩)
    have h := name_any x c r w0 hE (by omega) hl h1
    rw [hl] at h
    unfold Lex.next
    rw [List.headD_cons, if_pos h1]
    exact h
  · by_cases h2 : Lex.digit c = true
    · refine .inr (.inr (.inl ⟨by unfold tableF; rw [if_neg h1, if_pos h2], fun w0 hE => ?_⟩))
      have h := number_any x c r w0 hE (by omega) hl h2
      rw [hl] at h
      unfold Lex.next
      rw [List.headD_cons, if_neg h1, if_pos h2]
      exact h
    · by_cases h3 : symStarts.contains c = true
      · refine .inr (.inr (.inr ⟨by unfold tableF; rw [if_neg h1, if_neg h2, if_pos h3], fun w0 hE => ?_⟩))
        have h := symbol_any x w0 hE (by omega) hpos
        rw [hl] at h
        unfold Lex.next
        rw [List.headD_cons, if_neg h1, if_neg h2]
        exact h
      · have h0 : tableF c = 0 := by unfold tableF; rw [if_neg h1, if_neg h2, if_neg h3]
        exact .inl ⟨h0, no_token h0⟩

/-- the invariant of the loop over the tokens -/
structure LoopInv (s : ByteArray) (w : World) (M : Nat) (x : ByteArray) (k : Nat) (ts : List Lex.Tok) (out : Value) (wr : World) : Prop where
  le : k ≤ s.size
  text : x.data.toList = rest s k
  few : ts.length ≤ k
  own : wr.ownsRow w.heap.size 129 4 out ts.length (toksCells ts)
  below : Below w.heap.size w wr
  table : TableAt wr M 78 tableF
  same : ∃ f, (rest s k).length ≤ f ∧ Lex.scan s.data.toList = Lex.pre ts (Lex.scanF s.size f (rest s k))

theorem bad_at {s x : ByteArray} {w : World} {M k : Nat} {ts : List Lex.Tok} {out : Value} {wr : World} {c : UInt8} {r : List UInt8} {er : Nat} (I : LoopInv s w M x k ts out wr) (hx : x.data.toList = c :: r) (hG : Lex.next (c :: r) = .bad er) :
    Lex.scan s.data.toList = .bad k er := by
  obtain ⟨f, hf, hsame⟩ := I.same
  have hr := I.text
  rw [hx] at hr
  have hrl := rest_len s k
  rw [← hr] at hf hsame hrl
  have hk := I.le
  rw [List.length_cons] at hf
  obtain ⟨g, rfl⟩ : ∃ g, f = g + 1 := ⟨f - 1, by omega⟩
  rw [hsame, Lex.scanF_bad hG, hrl]
  simp only [Lex.pre]
  congr 1
  omega

theorem own_not_map {w : World} {B M n : Nat} {e : TypeId} {size m : Nat} {v : Value} {xs : List Value} {f : UInt8 → Nat} (h : w.ownsRow B e size v m xs) (hM : TableAt w M n f) : v.ownBlock ≠ some M := by
  intro hb
  obtain ⟨D, _, ⟨es, clock, hm, _⟩, _⟩ := hM
  rcases h.2 with ⟨rfl, _⟩ | ⟨g, cap, cur, rfl, _, hg, _⟩
  · simp [Value.ownBlock] at hb
  · simp only [Value.ownBlock, Option.some.injEq] at hb
    rw [hb, hm] at hg
    cases hg
theorem TableAt.grown {w w' : World} {M n : Nat} {f : UInt8 → Nat} {row : Option Nat} (h : TableAt w M n f) (hg : w.grownBy w' row) (hne : row ≠ some M) : TableAt w' M n f := by
  obtain ⟨D, h1, h2, h3⟩ := h; exact ⟨D, h1, h2.kept hg (fun e => hne e.symm), h3⟩

theorem loop_step {s x : ByteArray} {w : World} {M k : Nat} {ts : List Lex.Tok} {out : Value} {wr : World} {c : UInt8} {r : List UInt8} {kd : Nat} {tx : List UInt8} {vl : Nat} (I : LoopInv s w M x k ts out wr) (hx : x.data.toList = c :: r) (hG : Lex.next (c :: r) = .tok kd tx vl)
    {x' : ByteArray} (hx' : x'.data.toList = Lex.skip false ((c :: r).drop tx.length)) {v' : Value} {wb : World} (hown : wb.ownsRow w.heap.size 129 4 v' (ts.length + 1) (toksCells ts ++ tokCells ⟨kd, tx, vl, k⟩)) (hbel : Below w.heap.size w wb) (htab : TableAt wb M 78 tableF) :
    x'.size < x.size ∧ LoopInv s w M x' (s.size - x'.size) (ts ++ [⟨kd, tx, vl, k⟩]) v' wb := by
  obtain ⟨f, hf, hsame⟩ := I.same
  have hr := I.text
  rw [hx] at hr
  have hrl := rest_len s k
  rw [← hr] at hf hsame hrl
  have hk := I.le
  have hfew := I.few
  obtain ⟨htx, hp, hle⟩ := Lex.next_text hG
  rw [List.length_cons] at hf
  have hsk := Lex.skip_le false ((c :: r).drop tx.length)
  rw [List.length_drop] at hsk
  have hxs : x'.size = (Lex.skip false ((c :: r).drop tx.length)).length := by rw [Lib.size_eq, hx']
  have hxx : x.size = (c :: r).length := by rw [Lib.size_eq, hx]
  obtain ⟨g, rfl⟩ : ∃ g, f = g + 1 := ⟨f - 1, by rw [List.length_cons] at hrl; omega⟩
  have hdrop : (c :: r).drop tx.length = rest s (k + tx.length) := by rw [hr]; unfold rest; rw [List.drop_drop]
  have hrs : rest s (s.size - x'.size) = Lex.skip false ((c :: r).drop tx.length) := by
    rw [hxs, hdrop]
    exact rest_skip s (k + tx.length) (by omega)
  refine ⟨by omega, by omega, by rw [hx', hrs], by rw [List.length_append, List.length_singleton]; omega, by rw [List.length_append, toksCells_snoc]; exact hown, hbel, htab, g, by rw [hrs]; rw [List.length_cons] at hle hsk; omega, ?_⟩
  rw [hsame, Lex.scanF_tok hG, hrs, hrl, show s.size - (s.size - k) = k by omega]

set_option maxRecDepth 100000 in
set_option maxHeartbeats 1000000 in
theorem scan_any_long (s : ByteArray) (w : World) (hs : s.size ≤ 9223372036854775800) (hl : 16384 < s.size) :
    Calls Tryz.prog 108 #[.string s] w (ScanPost s w) := by
  go_enter Tryz.func108, Tryz.ntmps108
  go_wp2_with fail
  go_ret3
  exact .inl ⟨0, 8, by unfold Lex.scan; rw [if_pos (by rw [← Lib.size_eq]; exact hl)], rfl, Below.refl _ _⟩

set_option maxRecDepth 100000 in
set_option maxHeartbeats 1000000 in
theorem scan_any_short (s : ByteArray) (w : World) (hE : LexEnv w) (hl : s.size ≤ 16384) :
    Calls Tryz.prog 108 #[.string s] w (ScanPost s w) := by
  obtain ⟨i0, hi, hz0, hz1, hz2⟩ := info_parts tokInfo
  have feq := fn_eq_nil
  have feq2 := fn_eq_fn
  have HE := Lib.hid hE
  clear hE
  go_enter Tryz.func108, Tryz.ntmps108
  go_wp2_with fail
  refine (scanners_any _).mono ?_
  rintro e w1 ⟨rfl, hT1, hb1⟩
  have HT1 := Lib.hid hT1
  clear hT1
  have hs1 := hb1.size
  go_wp2_with fail
  refine (skip_any _ _).mono ?_
  rintro e w2 ⟨rfl, hb2⟩
  have hs2 := hb2.size
  go_wp2_with fail
  go_loopw [5, 7] (fun out v wr => ∃ (x : ByteArray) (k : Nat) (ts : List Lex.Tok), v = .string x ∧ LoopInv s w w.heap.size x k ts out wr) (fun _ v _ => strLen v)
  case atStart =>
    have h0 : rest s 0 = s.data.toList := by unfold rest; rw [List.drop_zero]
    have hk := rest_skip s 0 (Nat.zero_le _)
    rw [h0] at hk
    have hle := Lex.skip_le false s.data.toList
    rw [← Lib.size_eq] at hle
    refine ⟨_, s.size - (Lex.skip false s.data.toList).length, [], rfl, ?_⟩
    refine ⟨by omega, hk.symm, by simp, World.ownsRow_nil _ _ _ _, (hb1.trans (hb2.mono hs1)), HT1.out.keep hb2, s.size, by rw [rest_len]; omega, ?_⟩
    rw [Lex.pre_nil]
    unfold Lex.scan
    rw [if_neg (by rw [← Lib.size_eq]; omega), ← Lib.size_eq, hk]
  case round =>
    obtain ⟨x, k, ts, rfl, I⟩ := hrel
    have hk := I.le
    have hfew := I.few
    have hown := I.own
    have hbel := I.below
    have hsz := hbel.size
    have hxl : x.size = s.size - k := by rw [Lib.size_eq, I.text, rest_len]
    have II := Lib.hid I
    cases hr : rest s k with
    | nil =>
      have hrl := rest_len s k
      rw [hr, List.length_nil] at hrl
      have hx0 : x.toList.isEmpty = true := by rw [Lib.toList_data, I.text, hr]; rfl
      have hx1 : x.toList = [] := by rw [Lib.toList_data, I.text, hr]
      have HR := Lib.hid hr
      have hx2 : x.size = 0 := by omega
      have hke : s.size ≤ k := by omega
      clear hr I hrl hxl
      go_wp2_with (at_builtin; refine wpList_append_own _ rfl _ _ 124 rfl w.heap.size 129 i0 (.agg #[.int .i64 0, .string ⟨#[]⟩, .int .i64 0, .int .i64 0]) 4 40 Tryz.underlying124 hi hz0 hz1 hz2 rfl (by decide) _ _ _ rfl (hown.alloc _) ⟨wr.heap.size, 0, none⟩ 1 1 [.int .i64 0, .string ⟨#[]⟩, .int .i64 0, .int .i64 s.size] rfl rfl (news_cells (cs := #[.int .i64 0, .string ⟨#[]⟩, .int .i64 0, .int .i64 s.size]) rfl (by simp)) (by simp [Value.oneCell']) (by unfold maxLen; omega) (by omega) (by simp <;> omega) ?_; intro v' wa howna hgrow hnil)
      go_ret3
      have J := II.out
      refine .inr ⟨ts ++ [⟨0, [], 0, s.size⟩], v', ?_, rfl, ?_, ?_⟩
      · obtain ⟨f, hf, hsame⟩ := J.same
        rw [hsame, HR.out, Lex.scanF_nil]; rfl
      · rw [toksCells_snoc, List.length_append]; exact howna
      · exact (hbel.alloc (by omega) _).grown hgrow (by simp <;> omega) fun q hq => (hown.lt q hq).1
    | cons c r =>
      have hrl := rest_len s k
      rw [hr, List.length_cons] at hrl
      have hlt : k < s.size := by omega
      have hxt : x.data.toList = c :: r := by rw [I.text, hr]
      have hx0 : x.toList.isEmpty = false := by rw [Lib.toList_data, hxt]; rfl
      have hget : ∀ h : 0 < x.size, x[0]'h = c := by
        intro h
        have h2 := head_get x h
        rw [← h2, hxt]; rfl
      have hpos : 0 < x.size := by omega
      have hx16 : x.size ≤ 16384 := by omega
      have hlook := table_look I.table c
      have hrd := reads_token x c r hxt hx16
      have hat : ((s.size : Int) - (x.size : Int)) = (k : Int) := by omega
      have HXT := Lib.hid hxt
      have HXL := Lib.hid hxl
      have HRL := Lib.hid hrl
      have HR := Lib.hid hr
      clear hr hrl hxl hxt I
      rcases hrd with ⟨h0, h1⟩ | ⟨h0, hf⟩ | ⟨h0, hf⟩ | ⟨h0, hf⟩
      · rw [h0, if_pos rfl] at hlook
        have H1 := Lib.hid h1
        clear h0 h1
        go_wp2_with fail
        go_ret3
        exact .inl ⟨k, 3, bad_at II.out HXT.out H1.out, rfl, hbel⟩
      · rw [h0, if_neg (by decide)] at hlook
        unfold fnV at hlook
        cases hG : Lex.next (c :: r) with
        | bad er =>
          have hne : ((er : Int) != 0) = true := by
            rw [bne_iff_ne]
            have := Lex.next_bad hG
            omega
          have hN : ∀ w0, LexEnv w0 → Calls Tryz.prog 153 #[.string x] w0 fun e w' => e = .returned (.tuple #[.agg #[.int .i64 0, .string ⟨#[]⟩, .int .i64 0, .int .i64 0], .int .i64 er]) ∧ Below w0.heap.size w0 w' := by
            intro w0 hE0
            have h := hf w0 hE0
            rw [hG] at h
            exact h
          have HN := Lib.hid hN
          have HG := Lib.hid hG
          clear hN hG hf h0
          go_wp2_with (go_at_call 153; refine (HN.out _ (HE.out.keep hbel)).mono ?_; rintro e w3 ⟨rfl, hb3⟩)
          go_ret3
          refine .inl ⟨k, er, bad_at II.out HXT.out HG.out, rfl, ?_⟩
          exact (hbel.trans (hb3.mono (by omega))).alloc (by have := hb3.size; omega) _
        | tok kd tx vl =>
          have hN : ∀ w0, LexEnv w0 → Calls Tryz.prog 153 #[.string x] w0 fun e w' => e = .returned (.tuple #[.agg #[.int .i64 kd, .string ⟨tx.toArray⟩, .int .i64 vl, .int .i64 0], .int .i64 0]) ∧ Below w0.heap.size w0 w' := by
            intro w0 hE0
            have h := hf w0 hE0
            rw [hG] at h
            exact h
          obtain ⟨htx, hp, hle⟩ := Lex.next_text hG
          rw [List.length_cons] at hle
          have hle3 : tx.length ≤ x.size := by have h1 := HXL.out; have h2 := HRL.out; omega
          have HN := Lib.hid hN
          have HG := Lib.hid hG
          clear hN hG hf h0 htx hle
          go_wp2_with (first | (go_at_call 153; refine (HN.out _ (HE.out.keep hbel)).mono ?_; rintro e w3 ⟨rfl, hb3⟩; have hown3 := own_below hown hb3; have hs3 := hb3.size) | (at_builtin; refine wpList_append_own _ rfl _ _ 124 rfl w.heap.size 129 i0 (.agg #[.int .i64 0, .string ⟨#[]⟩, .int .i64 0, .int .i64 0]) 4 40 Tryz.underlying124 hi hz0 hz1 hz2 rfl (by decide) _ _ _ rfl (hown3.alloc _ |>.alloc _) ⟨w3.heap.size + 1, 0, none⟩ 1 1 [.int .i64 kd, .string ⟨tx.toArray⟩, .int .i64 vl, .int .i64 k] rfl rfl (news_cells (cs := #[.int .i64 kd, .string ⟨tx.toArray⟩, .int .i64 vl, .int .i64 k]) rfl (by simp)) (by simp [Value.oneCell']) (by unfold maxLen; omega) (by omega) (by simp <;> omega) ?_; intro v' wa howna hgrow hnil; have hc2 := hgrow.cell (a := ⟨w3.heap.size, 1, none⟩) (v := .string ⟨tx.toArray⟩) (by simp) (fun e => by have := (hown.lt _ e.symm).2; simp at this; omega)) | (go_at_call 136; refine (skip_any _ _).mono ?_; rintro e w5 ⟨rfl, hb5⟩))
          have hsa := hgrow.size
          have hne5 := own_not_map hown II.out.table
          have hst := loop_step (x' := ⟨(Lex.skip false (List.take (x.size - tx.length) (List.drop tx.length x.data.toList))).toArray⟩) II.out HXT.out HG.out (by show Lex.skip false _ = _; rw [List.take_of_length_le (by rw [List.length_drop, ← Lib.size_eq]; omega), HXT.out]) (own_below howna hb5)
            (((((hbel.trans (hb3.mono (by omega))).alloc (by omega) _).alloc (by simp <;> omega) _).grown hgrow (by simp <;> omega) fun q hq => (hown.lt q hq).1).trans (hb5.mono (by simp at hsa; omega)))
            (((((II.out.table.keep hb3).alloc _).alloc _).grown hgrow hne5).keep hb5)
          go_roundw
          case rel => exact ⟨_, _, _, rfl, hst.2⟩
          case measure => exact hst.1
      · rw [h0, if_neg (by decide)] at hlook
        unfold fnV at hlook
        cases hG : Lex.next (c :: r) with
        | bad er =>
          have hne : ((er : Int) != 0) = true := by
            rw [bne_iff_ne]
            have := Lex.next_bad hG
            omega
          have hN : ∀ w0, LexEnv w0 → Calls Tryz.prog 152 #[.string x] w0 fun e w' => e = .returned (.tuple #[.agg #[.int .i64 0, .string ⟨#[]⟩, .int .i64 0, .int .i64 0], .int .i64 er]) ∧ Below w0.heap.size w0 w' := by
            intro w0 hE0
            have h := hf w0 hE0
            rw [hG] at h
            exact h
          have HN := Lib.hid hN
          have HG := Lib.hid hG
          clear hN hG hf h0
          go_wp2_with (go_at_call 152; refine (HN.out _ (HE.out.keep hbel)).mono ?_; rintro e w3 ⟨rfl, hb3⟩)
          go_ret3
          refine .inl ⟨k, er, bad_at II.out HXT.out HG.out, rfl, ?_⟩
          exact (hbel.trans (hb3.mono (by omega))).alloc (by have := hb3.size; omega) _
        | tok kd tx vl =>
          have hN : ∀ w0, LexEnv w0 → Calls Tryz.prog 152 #[.string x] w0 fun e w' => e = .returned (.tuple #[.agg #[.int .i64 kd, .string ⟨tx.toArray⟩, .int .i64 vl, .int .i64 0], .int .i64 0]) ∧ Below w0.heap.size w0 w' := by
            intro w0 hE0
            have h := hf w0 hE0
            rw [hG] at h
            exact h
          obtain ⟨htx, hp, hle⟩ := Lex.next_text hG
          rw [List.length_cons] at hle
          have hle3 : tx.length ≤ x.size := by have h1 := HXL.out; have h2 := HRL.out; omega
          have HN := Lib.hid hN
          have HG := Lib.hid hG
          clear hN hG hf h0 htx hle
          go_wp2_with (first | (go_at_call 152; refine (HN.out _ (HE.out.keep hbel)).mono ?_; rintro e w3 ⟨rfl, hb3⟩; have hown3 := own_below hown hb3; have hs3 := hb3.size) | (at_builtin; refine wpList_append_own _ rfl _ _ 124 rfl w.heap.size 129 i0 (.agg #[.int .i64 0, .string ⟨#[]⟩, .int .i64 0, .int .i64 0]) 4 40 Tryz.underlying124 hi hz0 hz1 hz2 rfl (by decide) _ _ _ rfl (hown3.alloc _ |>.alloc _) ⟨w3.heap.size + 1, 0, none⟩ 1 1 [.int .i64 kd, .string ⟨tx.toArray⟩, .int .i64 vl, .int .i64 k] rfl rfl (news_cells (cs := #[.int .i64 kd, .string ⟨tx.toArray⟩, .int .i64 vl, .int .i64 k]) rfl (by simp)) (by simp [Value.oneCell']) (by unfold maxLen; omega) (by omega) (by simp <;> omega) ?_; intro v' wa howna hgrow hnil; have hc2 := hgrow.cell (a := ⟨w3.heap.size, 1, none⟩) (v := .string ⟨tx.toArray⟩) (by simp) (fun e => by have := (hown.lt _ e.symm).2; simp at this; omega)) | (go_at_call 136; refine (skip_any _ _).mono ?_; rintro e w5 ⟨rfl, hb5⟩))
          have hsa := hgrow.size
          have hne5 := own_not_map hown II.out.table
          have hst := loop_step (x' := ⟨(Lex.skip false (List.take (x.size - tx.length) (List.drop tx.length x.data.toList))).toArray⟩) II.out HXT.out HG.out (by show Lex.skip false _ = _; rw [List.take_of_length_le (by rw [List.length_drop, ← Lib.size_eq]; omega), HXT.out]) (own_below howna hb5)
            (((((hbel.trans (hb3.mono (by omega))).alloc (by omega) _).alloc (by simp <;> omega) _).grown hgrow (by simp <;> omega) fun q hq => (hown.lt q hq).1).trans (hb5.mono (by simp at hsa; omega)))
            (((((II.out.table.keep hb3).alloc _).alloc _).grown hgrow hne5).keep hb5)
          go_roundw
          case rel => exact ⟨_, _, _, rfl, hst.2⟩
          case measure => exact hst.1
      · rw [h0, if_neg (by decide)] at hlook
        unfold fnV at hlook
        cases hG : Lex.next (c :: r) with
        | bad er =>
          have hne : ((er : Int) != 0) = true := by
            rw [bne_iff_ne]
            have := Lex.next_bad hG
            omega
          have hN : ∀ w0, LexEnv w0 → Calls Tryz.prog 154 #[.string x] w0 fun e w' => e = .returned (.tuple #[.agg #[.int .i64 0, .string ⟨#[]⟩, .int .i64 0, .int .i64 0], .int .i64 er]) ∧ Below w0.heap.size w0 w' := by
            intro w0 hE0
            have h := hf w0 hE0
            rw [hG] at h
            exact h
          have HN := Lib.hid hN
          have HG := Lib.hid hG
          clear hN hG hf h0
          go_wp2_with (go_at_call 154; refine (HN.out _ (HE.out.keep hbel)).mono ?_; rintro e w3 ⟨rfl, hb3⟩)
          go_ret3
          refine .inl ⟨k, er, bad_at II.out HXT.out HG.out, rfl, ?_⟩
          exact (hbel.trans (hb3.mono (by omega))).alloc (by have := hb3.size; omega) _
        | tok kd tx vl =>
          have hN : ∀ w0, LexEnv w0 → Calls Tryz.prog 154 #[.string x] w0 fun e w' => e = .returned (.tuple #[.agg #[.int .i64 kd, .string ⟨tx.toArray⟩, .int .i64 vl, .int .i64 0], .int .i64 0]) ∧ Below w0.heap.size w0 w' := by
            intro w0 hE0
            have h := hf w0 hE0
            rw [hG] at h
            exact h
          obtain ⟨htx, hp, hle⟩ := Lex.next_text hG
          rw [List.length_cons] at hle
          have hle3 : tx.length ≤ x.size := by have h1 := HXL.out; have h2 := HRL.out; omega
          have HN := Lib.hid hN
          have HG := Lib.hid hG
          clear hN hG hf h0 htx hle
          go_wp2_with (first | (go_at_call 154; refine (HN.out _ (HE.out.keep hbel)).mono ?_; rintro e w3 ⟨rfl, hb3⟩; have hown3 := own_below hown hb3; have hs3 := hb3.size) | (at_builtin; refine wpList_append_own _ rfl _ _ 124 rfl w.heap.size 129 i0 (.agg #[.int .i64 0, .string ⟨#[]⟩, .int .i64 0, .int .i64 0]) 4 40 Tryz.underlying124 hi hz0 hz1 hz2 rfl (by decide) _ _ _ rfl (hown3.alloc _ |>.alloc _) ⟨w3.heap.size + 1, 0, none⟩ 1 1 [.int .i64 kd, .string ⟨tx.toArray⟩, .int .i64 vl, .int .i64 k] rfl rfl (news_cells (cs := #[.int .i64 kd, .string ⟨tx.toArray⟩, .int .i64 vl, .int .i64 k]) rfl (by simp)) (by simp [Value.oneCell']) (by unfold maxLen; omega) (by omega) (by simp <;> omega) ?_; intro v' wa howna hgrow hnil; have hc2 := hgrow.cell (a := ⟨w3.heap.size, 1, none⟩) (v := .string ⟨tx.toArray⟩) (by simp) (fun e => by have := (hown.lt _ e.symm).2; simp at this; omega)) | (go_at_call 136; refine (skip_any _ _).mono ?_; rintro e w5 ⟨rfl, hb5⟩))
          have hsa := hgrow.size
          have hne5 := own_not_map hown II.out.table
          have hst := loop_step (x' := ⟨(Lex.skip false (List.take (x.size - tx.length) (List.drop tx.length x.data.toList))).toArray⟩) II.out HXT.out HG.out (by show Lex.skip false _ = _; rw [List.take_of_length_le (by rw [List.length_drop, ← Lib.size_eq]; omega), HXT.out]) (own_below howna hb5)
            (((((hbel.trans (hb3.mono (by omega))).alloc (by omega) _).alloc (by simp <;> omega) _).grown hgrow (by simp <;> omega) fun q hq => (hown.lt q hq).1).trans (hb5.mono (by simp at hsa; omega)))
            (((((II.out.table.keep hb3).alloc _).alloc _).grown hgrow hne5).keep hb5)
          go_roundw
          case rel => exact ⟨_, _, _, rfl, hst.2⟩
          case measure => exact hst.1

theorem scan_any (s : ByteArray) (w : World) (hE : LexEnv w) (hs : s.size ≤ 9223372036854775800) : Calls Tryz.prog 108 #[.string s] w (ScanPost s w) := by
  by_cases h : s.size ≤ 16384
  · exact scan_any_short s w hE h
  · exact scan_any_long s w hs (by omega)
end Go.Proofs.YtlgfickhkejdjaaGreatDoor

namespace Go.Proofs.YtlgfickhkejdjaaGreatDoor
open Go.RowKit

theorem toksCells_get : ∀ (ts : List Lex.Tok) (j : Nat) (t : Lex.Tok), ts[j]? = some t → ∀ i, i < 4 → (toksCells ts)[j * 4 + i]? = (tokCells t)[i]?
  | [], j, t, h, _, _ => by simp at h
  | a :: ts, 0, t, h, i, hi => by
    simp only [List.getElem?_cons_zero, Option.some.injEq] at h
    subst h
    show (tokCells a ++ toksCells ts)[0 * 4 + i]? = _
    rw [Nat.zero_mul, Nat.zero_add, List.getElem?_append_left (by simp [tokCells]; omega)]
  | a :: ts, j + 1, t, h, i, hi => by
    simp only [List.getElem?_cons_succ] at h
    show (tokCells a ++ toksCells ts)[(j + 1) * 4 + i]? = _
    have hl : (tokCells a).length = 4 := rfl
    rw [List.getElem?_append_right (by omega), hl, show (j + 1) * 4 + i - 4 = j * 4 + i by omega]
    exact toksCells_get ts j t h i hi

theorem toks_of_own {w : World} {B : Nat} {v : Value} {ts : List Lex.Tok} (h : w.ownsRow B 129 4 v ts.length (toksCells ts)) (hne : ts ≠ []) :
    ∃ g cap, v = .slice (some ⟨g, 0, none⟩) ts.length cap ∧ ts.length ≤ cap ∧ ToksAt w g ts ∧ B ≤ g ∧ g < w.heap.size := by
  have hc := h
  rcases h.2 with ⟨_, h0⟩ | ⟨g, cap, cur, rfl, hb, hg, hn, _⟩
  · exact absurd (List.eq_nil_of_length_eq_zero h0) hne
  · refine ⟨g, cap, rfl, hn, ?_, hb, (Array.getElem?_eq_some_iff.1 hg).1⟩
    intro j t hj
    have hcell := fun i hi u (hu : (tokCells t)[i]? = some u) => hc.cells (g := g) rfl (j * 4 + i) u ((toksCells_get ts j t hj i hi).trans hu)
    have hadd : ∀ m, (⟨g, 0, none⟩ : Addr).add m = ⟨g, m, none⟩ := by intro m; unfold Addr.add; split <;> simp_all
    simp only [hadd] at hcell
    exact ⟨hcell 0 (by omega) _ rfl, hcell 1 (by omega) _ rfl, hcell 2 (by omega) _ rfl, hcell 3 (by omega) _ rfl⟩

theorem ToksAt.keep {w w' : World} {B b : Nat} {ts : List Lex.Tok} (h : ToksAt w b ts) (hb : Below B w w') (hlt : b < B) : ToksAt w' b ts := by
  intro j t hj
  obtain ⟨h0, h1, h2, h3⟩ := h j t hj
  exact ⟨by rw [hb.cell hlt]; exact h0, by rw [hb.cell hlt]; exact h1, by rw [hb.cell hlt]; exact h2, by rw [hb.cell hlt]; exact h3⟩

/-- the texts that Format joins -/
def texts (ts : List Lex.Tok) : List (List UInt8) := (ts.filter fun t => decide (t.kind ≠ 0)).map (·.text)
def strCells (ls : List (List UInt8)) : List Value := ls.map fun l => .string ⟨l.toArray⟩
def fmtL (ts : List Lex.Tok) : List UInt8 := Lib.join (texts ts) [32]

theorem strInfo : (Tryz.prog.info? 9).map (fun i => (i.zero, i.size, i.bytes)) = some (some (.string ⟨#[]⟩), 1, 16) := by kernel_rfl

theorem take_snoc_get {α : Type} {l : List α} {k : Nat} {t : α} (h : l[k]? = some t) : l.take (k + 1) = l.take k ++ [t] := by
  obtain ⟨hk, he⟩ := List.getElem?_eq_some_iff.1 h
  rw [List.take_succ_eq_append_getElem hk, he]
theorem texts_skip {ts : List Lex.Tok} {k : Nat} {t : Lex.Tok} (h : ts[k]? = some t) (h0 : t.kind = 0) : texts (ts.take (k + 1)) = texts (ts.take k) := by
  rw [take_snoc_get h]; unfold texts; simp [List.filter_append, h0]
theorem texts_take {ts : List Lex.Tok} {k : Nat} {t : Lex.Tok} (h : ts[k]? = some t) (h0 : t.kind ≠ 0) : texts (ts.take (k + 1)) = texts (ts.take k) ++ [t.text] := by
  rw [take_snoc_get h]; unfold texts; simp [List.filter_append, h0]
theorem texts_len (ts : List Lex.Tok) : (texts ts).length ≤ ts.length := by unfold texts; rw [List.length_map]; exact List.length_filter_le _ _

theorem join_cells (w : World) (bk c : Nat) (ls : List (List UInt8)) (n : Nat) (hn : n = ls.length) (hcells : ∀ (j : Nat) (u : Value), (strCells ls)[j]? = some u → w.cell? ⟨bk, j, none⟩ = some u) (hbk : bk < w.heap.size) (hN : ls.length ≤ 100000) (hcap : ls.length ≤ c) (hlen : (Lib.join ls [32]).length ≤ 140737488355328) :
    Calls Tryz.prog 95 #[.slice (some ⟨bk, 0, none⟩) n c, .string ⟨#[32]⟩] w fun e w' => e = .returned (.string ⟨(Lib.join ls [32]).toArray⟩) ∧ Below w.heap.size w w' := by
  have hm : (ls.map fun l => (⟨l.toArray⟩ : ByteArray)).map (·.data.toList) = ls := by
    rw [List.map_map]
    conv => rhs; rw [← List.map_id ls]
    apply List.map_congr_left
    intro l _; rfl
  have h := Tryz.strings_Join bk 0 c (ls.map fun l => ⟨l.toArray⟩) ⟨#[32]⟩ w (by
    intro j x hx
    rw [Nat.zero_add]
    apply hcells
    unfold strCells
    rw [List.getElem?_map] at hx ⊢
    cases hj : ls[j]? with
    | none => rw [hj] at hx; cases hx
    | some l => rw [hj] at hx; cases hx; rfl) hbk (by rw [List.length_map]; omega) (by rw [List.length_map]; exact hcap) (by rw [hm]; exact hlen)
  rw [hm, List.length_map, ← hn] at h
  exact h

end Go.Proofs.YtlgfickhkejdjaaGreatDoor

namespace Go.Proofs.YtlgfickhkejdjaaGreatDoor
open Go.RowKit

def ex1 : List UInt8 := [108, 101, 116, 32, 120, 32, 61, 32, 116, 104, 105, 115, 46, 102, 50, 59, 32, 35, 32, 110, 111, 116, 101]
def ex2 : List UInt8 := [97, 32, 60, 32, 48, 48, 55]
def exToks : List Lex.Tok := [⟨4, [108, 101, 116], 0, 0⟩, ⟨2, [120], 0, 4⟩, ⟨5, [61], 0, 6⟩, ⟨4, [116, 104, 105, 115], 0, 8⟩, ⟨5, [46], 0, 12⟩, ⟨2, [102, 50], 0, 13⟩, ⟨5, [59], 0, 15⟩, ⟨0, [], 0, 23⟩]
theorem ex1_scan : Lex.scan ex1 = .toks exToks := by decide +kernel
theorem ex2_scan : Lex.scan ex2 = .bad 4 3 := by decide +kernel
theorem ex_fmt : fmtL exToks = [108, 101, 116, 32, 120, 32, 61, 32, 116, 104, 105, 115, 32, 46, 32, 102, 50, 32, 59] := by decide +kernel

/-- Scan at a source with tokens -/
theorem scan_toks (s : ByteArray) (ts : List Lex.Tok) (w : World) (hE : LexEnv w) (hs : s.size ≤ 16384) (h : Lex.scan s.data.toList = .toks ts) (hne : ts ≠ []) :
    Calls Tryz.prog 108 #[.string s] w fun e w' => ∃ g cap, e = .returned (.tuple #[.slice (some ⟨g, 0, none⟩) ts.length cap, .int .i64 0, .int .i64 0]) ∧ ToksAt w' g ts ∧ w.heap.size ≤ g ∧ g < w'.heap.size ∧ Below w.heap.size w w' := by
  refine (scan_any s w hE (by omega)).mono ?_
  rintro e w' (⟨a, er, hb, _⟩ | ⟨us, v, ht, rfl, hown, hbel⟩)
  · rw [h] at hb; cases hb
  · rw [h] at ht; cases ht
    obtain ⟨g, cap, rfl, _, hta, h1, h2⟩ := toks_of_own hown hne
    exact ⟨g, cap, rfl, hta, h1, h2, hbel⟩
theorem scan_bad (s : ByteArray) (a er : Nat) (w : World) (hE : LexEnv w) (hs : s.size ≤ 9223372036854775800) (h : Lex.scan s.data.toList = .bad a er) :
    Calls Tryz.prog 108 #[.string s] w fun e w' => e = .returned (.tuple #[.slice none 0 0, .int .i64 a, .int .i64 er]) ∧ Below w.heap.size w w' := by
  refine (scan_any s w hE hs).mono ?_
  rintro e w' (⟨a', er', hb, rfl, hbel⟩ | ⟨us, v, ht, _⟩)
  · rw [h] at hb; cases hb; exact ⟨rfl, hbel⟩
  · rw [h] at ht; cases ht

end Go.Proofs.YtlgfickhkejdjaaGreatDoor

namespace Go.Proofs.YtlgfickhkejdjaaGreatDoor
open Go.RowKit

theorem scanF_ne (n : Nat) : ∀ (f : Nat) (l : List UInt8) (ts : List Lex.Tok), Lex.scanF n f l = .toks ts → ts ≠ []
  | f, [], ts, h => by rw [Lex.scanF_nil] at h; cases h; simp
  | 0, _ :: _, ts, h => by cases h
  | f + 1, c :: r, ts, h => by
    cases hn : Lex.next (c :: r) with
    | bad e => rw [Lex.scanF_bad hn] at h; cases h
    | tok k t v =>
      have h2 := Lex.scanF_tok (n := n) (f := f) hn []
      rw [Lex.pre_nil, h] at h2
      cases hs : Lex.scanF n f (Lex.skip false ((c :: r).drop t.length)) with
      | bad a e => rw [hs] at h2; cases h2
      | toks l => rw [hs] at h2; cases h2; simp
theorem scan_ne {l : List UInt8} {ts : List Lex.Tok} (h : Lex.scan l = .toks ts) : ts ≠ [] := by
  unfold Lex.scan at h
  split at h
  · cases h
  · exact scanF_ne _ _ _ _ h

theorem scanF_len (n : Nat) : ∀ (f : Nat) (l : List UInt8) (ts : List Lex.Tok), Lex.scanF n f l = .toks ts → ts.length ≤ l.length + 1
  | f, [], ts, h => by rw [Lex.scanF_nil] at h; cases h; simp
  | 0, _ :: _, ts, h => by cases h
  | f + 1, c :: r, ts, h => by
    cases hn : Lex.next (c :: r) with
    | bad e => rw [Lex.scanF_bad hn] at h; cases h
    | tok k t v =>
      have h2 := Lex.scanF_tok (n := n) (f := f) hn []
      rw [Lex.pre_nil, h] at h2
      have hle := Lex.skip_le false ((c :: r).drop t.length)
      rw [List.length_drop] at hle
      have hp := (Lex.next_text hn).2.1
      cases hs : Lex.scanF n f (Lex.skip false ((c :: r).drop t.length)) with
      | bad a e => rw [hs] at h2; cases h2
      | toks l =>
        have ih := scanF_len n f _ l hs
        rw [hs] at h2; cases h2
        simp only [List.nil_append, List.length_append, List.length_nil, List.length_cons] at hle ⊢
        omega
theorem scan_len {l : List UInt8} {ts : List Lex.Tok} (h : Lex.scan l = .toks ts) : ts.length ≤ 16385 := by
  unfold Lex.scan at h
  split at h
  · cases h
  · have h1 := scanF_len _ _ _ _ h
    have h2 := Lex.skip_le false l
    omega

theorem post_toks {s : ByteArray} {w w' : World} {e : Ending} {ts : List Lex.Tok} (hp : ScanPost s w e w') (h : Lex.scan s.data.toList = .toks ts) :
    ∃ g cap, e = .returned (.tuple #[.slice (some ⟨g, 0, none⟩) ts.length cap, .int .i64 0, .int .i64 0]) ∧ ToksAt w' g ts ∧ w.heap.size ≤ g ∧ g < w'.heap.size ∧ Below w.heap.size w w' := by
  rcases hp with ⟨a, er, hb, _⟩ | ⟨us, v, ht, rfl, hown, hbel⟩
  · rw [h] at hb; cases hb
  · rw [h] at ht; cases ht
    obtain ⟨g, cap, rfl, _, hta, h1, h2⟩ := toks_of_own hown (scan_ne h)
    exact ⟨g, cap, rfl, hta, h1, h2, hbel⟩
theorem post_bad {s : ByteArray} {w w' : World} {e : Ending} {a er : Nat} (hp : ScanPost s w e w') (h : Lex.scan s.data.toList = .bad a er) :
    e = .returned (.tuple #[.slice none 0 0, .int .i64 a, .int .i64 er]) ∧ Below w.heap.size w w' := by
  rcases hp with ⟨a', er', hb, rfl, hbel⟩ | ⟨us, v, ht, _⟩
  · rw [h] at hb; cases hb; exact ⟨rfl, hbel⟩
  · rw [h] at ht; cases ht

end Go.Proofs.YtlgfickhkejdjaaGreatDoor
