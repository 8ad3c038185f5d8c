/-
  The program's lexer: the tables in memory; IsKeyword, name, symbol, walked.
-/
import Derived.Test.YthbipapihdppmaaDoorLexProgA
import Derived.Test.YthbipapihdppmaaDoorLexKw
import Derived.Test.YthbipapihdppmaaDoorShelfB
namespace Go.Proofs.YthbipapihdppmaaDoor
open Go.RowKit

/-- The package-level variables that the lexer reads. -/
structure LexEnv (w : World) : Prop where
  kw : ∃ b o c, w.cell? ⟨0, 0, none⟩ = some (.slice (some ⟨b, o, none⟩) 24 c) ∧ ∀ j, j < 24 → w.cell? ⟨b, o + j, none⟩ = some (.string (kwz j))
  sy : ∃ b o c, w.cell? ⟨1, 0, none⟩ = some (.slice (some ⟨b, o, none⟩) 19 c) ∧ ∀ j, j < 19 → w.cell? ⟨b, o + j, none⟩ = some (.string (syz j))
  er : ∃ te pe, w.cell? ⟨4, 0, none⟩ = some (.iface te pe)

theorem cell_keep {w w' : World} (hb : Below w.heap.size w w') {a : Addr} {v : Value} (h : w.cell? a = some v) : w'.cell? a = some v := by
  rw [hb.cell (World.block_lt_of_cell? w a h)]; exact h
theorem LexEnv.keep {w w' : World} (h : LexEnv w) (hb : Below w.heap.size w w') : LexEnv w' := by
  obtain ⟨⟨b1, o1, c1, h1, k1⟩, ⟨b2, o2, c2, h2, k2⟩, te, pe, h3⟩ := h
  exact ⟨⟨b1, o1, c1, cell_keep hb h1, fun j hj => cell_keep hb (k1 j hj)⟩, ⟨b2, o2, c2, cell_keep hb h2, fun j hj => cell_keep hb (k2 j hj)⟩, te, pe, cell_keep hb h3⟩

def kwB (l : List UInt8) : Bool := Lex.keywords.contains l
def syB (l : List UInt8) : Bool := Lex.symbols.contains l

theorem toList_mk (l : List UInt8) : (⟨l.toArray⟩ : ByteArray).toList = l := by rw [Lib.toList_data]

set_option maxHeartbeats 400000 in
theorem isKeyword_any (x : ByteArray) (w : World) (hE : LexEnv w) :
    Calls Tryd.prog 17 #[.string x] w fun e w' => e = .returned (.bool (kwB x.data.toList)) ∧ Below w.heap.size w w' := by
  obtain ⟨b, o, c, h1, h2⟩ := hE.kw
  have hB : ∀ w0, (∀ j, j < 24 → w0.cell? ⟨b, o + j, none⟩ = some (.string (kwz j))) → Calls Tryd.prog 27 #[.slice (some ⟨b, o, none⟩) 24 c, .string x] w0 fun e w' =>
      ∃ I : Int, e = .returned (.tuple #[.int .i64 I, .bool (kwB x.data.toList)]) ∧ Below w0.heap.size w0 w' := by
    intro w0 h
    refine (Tryd.slices_BinarySearch_string b o 24 c kwz x w0 (by omega) h).mono ?_
    rintro e w' ⟨rfl, q, rfl⟩
    refine ⟨((Lib.bsGo (fun t => Op.bytesLess (kwz t).toList x.toList) 24 0 24 : Nat) : Int), ?_, below_drewN (Below.refl _ _) q⟩
    have hI : Lib.bsGo (fun t => Op.bytesLess (kwz t).toList x.toList) 24 0 24 = Lib.bsGo (fun t => Op.bytesLess (Lex.keywords.getD t []) x.data.toList) Lex.keywords.length 0 Lex.keywords.length := by
      congr 1
      funext t
      unfold kwz
      rw [toList_mk, Lib.toList_data]
    have hf := bs_found Lex.keywords kw_sorted x.data.toList _ hI
    unfold kwB
    rw [← hf]
    congr 3
    have hx : ∀ I, (kwz I = x) = (Lex.keywords.getD I [] = x.data.toList) := by
      intro I
      apply propext
      unfold kwz
      constructor
      · intro e; rw [← e]
      · intro e; apply bytes_eq; exact e
    simp only [hx]
    rfl
  have HB := Lib.hid hB
  have H2 := Lib.hid h2
  clear hB h2 hE
  go_enter Tryd.func17, Tryd.ntmps17
  go_wp2_with (go_at_call 27; refine (HB.out _ H2.out).mono ?_; rintro e w' ⟨I, rfl, hb⟩)
  go_ret
  exact ⟨rfl, hb⟩

/-- the sets of bytes as the program spells them -/
def wordSet : List UInt8 := [97, 98, 99, 100, 101, 102, 103, 104, 105, 106, 107, 108, 109, 110, 111, 112, 113, 114, 115, 116, 117, 118, 119, 120, 121, 122, 65, 66, 67, 68, 69, 70, 71, 72, 73, 74, 75, 76, 77, 78, 79, 80, 81, 82, 83, 84, 85, 86, 87, 88, 89, 90, 48, 49, 50, 51, 52, 53, 54, 55, 56, 57, 95]
def digitSet : List UInt8 := [48, 49, 50, 51, 52, 53, 54, 55, 56, 57]
def tailSet : List UInt8 := [97, 98, 99, 100, 101, 102, 103, 104, 105, 106, 107, 108, 109, 110, 111, 112, 113, 114, 115, 116, 117, 118, 119, 120, 121, 122, 65, 66, 67, 68, 69, 70, 71, 72, 73, 74, 75, 76, 77, 78, 79, 80, 81, 82, 83, 84, 85, 86, 87, 88, 89, 90, 95]
def upperSet : List UInt8 := [65, 66, 67, 68, 69, 70, 71, 72, 73, 74, 75, 76, 77, 78, 79, 80, 81, 82, 83, 84, 85, 86, 87, 88, 89, 90]

theorem all_bytes {p : UInt8 → Prop} (h : ∀ n, n < 256 → p (UInt8.ofNat n)) (c : UInt8) : p c := by
  have := h c.toNat c.toNat_lt
  rwa [UInt8.ofNat_toNat] at this
theorem wordSet_contains (c : UInt8) : wordSet.contains c = Lex.wordc c := by
  revert c; apply all_bytes; decide +kernel
theorem digitSet_contains (c : UInt8) : digitSet.contains c = Lex.digit c := by
  revert c; apply all_bytes; decide +kernel
theorem tailSet_contains (c : UInt8) : tailSet.contains c = Lex.tailc c := by
  revert c; apply all_bytes; decide +kernel
theorem upper_index (c : UInt8) : Lex.letter c = true → decide (0 ≤ Lib.indexByte upperSet c) = decide (c.toNat ≤ 90) := by
  revert c; apply all_bytes; decide +kernel
theorem set_ascii (l : List UInt8) (h : ∀ b ∈ l, b.toNat < 128) (j : Nat) (b : UInt8) (hj : l[j]? = some b) : b.toNat < 128 := h b (List.mem_of_getElem? hj)

/-- run at a set whose bytes are those that meet p -/
theorem run_set (s : ByteArray) (l : List UInt8) (p : UInt8 → Bool) (hp : ∀ c, l.contains c = p c) (ha : ∀ b ∈ l, b.toNat < 128) (h2 : 2 ≤ l.length) (h3 : l.length < 4294967281) (w : World) (hs : s.size ≤ 9223372036854775807) :
    Calls Tryd.prog 44 #[.string s, .string ⟨l.toArray⟩] w fun e w' => e = .returned (.string ⟨(s.data.toList.takeWhile p).toArray⟩) ∧ Below w.heap.size w w' := by
  have h := run_any s ⟨l.toArray⟩ w hs (by rw [Lib.size_eq]; exact h2) (by rw [Lib.size_eq]; exact h3) (fun j b hj => set_ascii l ha j b hj)
  have e : (fun x => List.contains (⟨l.toArray⟩ : ByteArray).data.toList x) = p := by funext c; exact hp c
  rw [e] at h
  exact h
theorem run_word (s : ByteArray) (w : World) (hs : s.size ≤ 9223372036854775807) :
    Calls Tryd.prog 44 #[.string s, .string ⟨#[97, 98, 99, 100, 101, 102, 103, 104, 105, 106, 107, 108, 109, 110, 111, 112, 113, 114, 115, 116, 117, 118, 119, 120, 121, 122, 65, 66, 67, 68, 69, 70, 71, 72, 73, 74, 75, 76, 77, 78, 79, 80, 81, 82, 83, 84, 85, 86, 87, 88, 89, 90, 48, 49, 50, 51, 52, 53, 54, 55, 56, 57, 95]⟩] w fun e w' => e = .returned (.string ⟨(s.data.toList.takeWhile Lex.wordc).toArray⟩) ∧ Below w.heap.size w w' :=
  run_set s wordSet Lex.wordc wordSet_contains (by decide) (by decide) (by decide) w hs
theorem run_digit (s : ByteArray) (w : World) (hs : s.size ≤ 9223372036854775807) :
    Calls Tryd.prog 44 #[.string s, .string ⟨#[48, 49, 50, 51, 52, 53, 54, 55, 56, 57]⟩] w fun e w' => e = .returned (.string ⟨(s.data.toList.takeWhile Lex.digit).toArray⟩) ∧ Below w.heap.size w w' :=
  run_set s digitSet Lex.digit digitSet_contains (by decide) (by decide) (by decide) w hs
theorem run_tail (s : ByteArray) (w : World) (hs : s.size ≤ 9223372036854775807) :
    Calls Tryd.prog 44 #[.string s, .string ⟨#[97, 98, 99, 100, 101, 102, 103, 104, 105, 106, 107, 108, 109, 110, 111, 112, 113, 114, 115, 116, 117, 118, 119, 120, 121, 122, 65, 66, 67, 68, 69, 70, 71, 72, 73, 74, 75, 76, 77, 78, 79, 80, 81, 82, 83, 84, 85, 86, 87, 88, 89, 90, 95]⟩] w fun e w' => e = .returned (.string ⟨(s.data.toList.takeWhile Lex.tailc).toArray⟩) ∧ Below w.heap.size w w' :=
  run_set s tailSet Lex.tailc tailSet_contains (by decide) (by decide) (by decide) w hs

theorem bcell {W w1 : World} (hb : Below W.heap.size W w1) : (∀ b o, b < W.heap.size → w1.cell? ⟨b, o, none⟩ = W.cell? ⟨b, o, none⟩) ∧ (∀ b o, b < W.heap.size → w1.frozen? ⟨b, o, none⟩ = W.frozen? ⟨b, o, none⟩) :=
  ⟨fun b o h => hb.cell (p := ⟨b, o, none⟩) h, fun b o h => hb.frozen (p := ⟨b, o, none⟩) h⟩

end Go.Proofs.YthbipapihdppmaaDoor
