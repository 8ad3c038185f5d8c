/-
  Several texts in one: LexSpec, LexRefA, LexRefB, LexRefC, LexRefD, LexRefE, LexRefF, LexRefG, LexSpec2, LexRefH, LexKw, LexNum.
-/
import Derived.Test.YtlgfickhkejdjaaGreatDoorRows
import Derived.WalkKit
import Derived.WalkSpells
import Derived.WalkLawsBesides
import Derived.Lib.Hide
import Derived.Lib.Strings
import Derived.Deep.RegionHeld3
import Derived.Deep.QuietTactic
import Derived.BigQuiet
import Derived.IntWalk
import Derived.Laws.StructEq
import Derived.Shelf.Spec.SearchS
import Derived.Lib.ParseIntB
namespace Go.Proofs.YtlgfickhkejdjaaGreatDoor
namespace Lex

abbrev Bytes := List UInt8

def letter (c : UInt8) : Bool := decide (97 ≤ c.toNat ∧ c.toNat ≤ 122 ∨ 65 ≤ c.toNat ∧ c.toNat ≤ 90)
def digit (c : UInt8) : Bool := decide (48 ≤ c.toNat ∧ c.toNat ≤ 57)
/-- a letter, a digit or an underscore -/
def wordc (c : UInt8) : Bool := letter c || digit c || decide (c.toNat = 95)
/-- a letter or an underscore -/
def tailc (c : UInt8) : Bool := letter c || decide (c.toNat = 95)
def space (c : UInt8) : Bool := decide (c.toNat = 32 ∨ c.toNat = 9 ∨ c.toNat = 10 ∨ c.toNat = 13)

/-- The text without the spaces and comments at its beginning (true: inside a comment). -/
def skip : Bool → Bytes → Bytes
  | _, [] => []
  | true, c :: r => if c.toNat = 10 then skip false r else skip true r
  | false, c :: r => if space c then skip false r else if c.toNat = 35 then skip true r else c :: r

structure Tok where
  kind : Nat
  text : Bytes
  val : Nat
  pos : Nat
  deriving DecidableEq, Inhabited

def keywords : List Bytes := [[97, 99, 116, 111, 114], [97, 110, 100], [97, 116], [98, 121], [101, 108, 115, 101], [103, 101, 116], [105, 102], [108, 101, 116], [109, 111, 118, 101], [110, 101, 119], [110, 105, 108], [110, 111, 116], [111, 110], [111, 114], [112, 114, 105, 110, 116], [114, 101, 99, 111, 114, 100], [114, 101, 116, 117, 114, 110], [115, 101, 110, 100], [116, 104, 105, 115], [116, 111], [118, 97, 114], [119, 97, 116, 99, 104], [119, 101, 97, 107], [119, 104, 105, 108, 101]]
def symbols : List Bytes := [[33, 61], [37], [40], [41], [42], [43], [44], [45], [46], [47], [59], [60], [60, 61], [61], [61, 61], [62], [62, 61], [123], [125]]

/-- The value of digits. -/
def value (l : Bytes) : Nat := l.foldl (fun n c => 10 * n + (c.toNat - 48)) 0

/-- The errors: 2 (range), 3 (syntax), 8 (too large). -/
inductive Got where
  | bad (e : Nat)
  | tok (kind : Nat) (text : Bytes) (val : Nat)
  deriving DecidableEq, Inhabited

def nameAt (l : Bytes) : Got :=
  let t := l.takeWhile wordc
  if 31 < t.length then .bad 8
  else if keywords.contains t then .tok 4 t 0
  else if (t.headD 0).toNat ≤ 90 then .tok 3 t 0
  else .tok 2 t 0

def numberAt (l : Bytes) : Got :=
  let t := l.takeWhile digit
  if (l.drop t.length).head?.any tailc then .bad 3
  else if 1 < t.length ∧ t.headD 0 = 48 then .bad 3
  else if 2305843009213693951 < value t then .bad 2
  else .tok 1 t (value t)

def symbolAt (l : Bytes) : Got :=
  if 2 ≤ l.length ∧ symbols.contains (l.take 2) = true then .tok 5 (l.take 2) 0
  else if symbols.contains (l.take 1) then .tok 5 (l.take 1) 0
  else .bad 3

/-- The token at the head of a text that is not empty. -/
def next (l : Bytes) : Got :=
  if letter (l.headD 0) then nameAt l else if digit (l.headD 0) then numberAt l else symbolAt l

inductive Res where
  | bad (at_ : Nat) (e : Nat)
  | toks (l : List Tok)
  deriving DecidableEq, Inhabited

/-- The tokens of a text whose spaces in front are gone, with offsets from pos on; n is the length of the whole source. Fuel: at least the text's length. -/
def scanF (n : Nat) : Nat → Bytes → Res
  | _, [] => .toks [⟨0, [], 0, n⟩]
  | 0, _ :: _ => .bad 0 0
  | f + 1, c :: r =>
    match next (c :: r) with
    | .bad e => .bad (n - (c :: r).length) e
    | .tok k t v =>
      match scanF n f (skip false ((c :: r).drop t.length)) with
      | .bad a e => .bad a e
      | .toks l => .toks (⟨k, t, v, n - (c :: r).length⟩ :: l)

/-- What Scan returns. -/
def scan (s : Bytes) : Res :=
  if 16384 < s.length then .bad 0 8 else scanF s.length (s.length) (skip false s)

theorem skip_le : ∀ (b : Bool) (l : Bytes), (skip b l).length ≤ l.length
  | b, [] => by cases b <;> simp [skip]
  | true, c :: r => by
    have h1 := skip_le false r
    have h2 := skip_le true r
    simp only [skip, List.length_cons]
    split <;> omega
  | false, c :: r => by
    have h1 := skip_le false r
    have h2 := skip_le true r
    simp only [skip, List.length_cons]
    split
    · omega
    · split
      · omega
      · simp

/-- What is left is an end of the text. -/
theorem skip_drop : ∀ (b : Bool) (l : Bytes), skip b l = l.drop (l.length - (skip b l).length)
  | b, [] => by cases b <;> simp [skip]
  | true, c :: r => by
    have h1 := skip_drop false r
    have h2 := skip_drop true r
    have l1 := skip_le false r
    have l2 := skip_le true r
    simp only [skip, List.length_cons]
    split
    · rw [show r.length + 1 - (skip false r).length = (r.length - (skip false r).length) + 1 by omega, List.drop_succ_cons]
      exact h1
    · rw [show r.length + 1 - (skip true r).length = (r.length - (skip true r).length) + 1 by omega, List.drop_succ_cons]
      exact h2
  | false, c :: r => by
    have h1 := skip_drop false r
    have h2 := skip_drop true r
    have l1 := skip_le false r
    have l2 := skip_le true r
    simp only [skip, List.length_cons]
    split
    · rw [show r.length + 1 - (skip false r).length = (r.length - (skip false r).length) + 1 by omega, List.drop_succ_cons]
      exact h1
    · split
      · rw [show r.length + 1 - (skip true r).length = (r.length - (skip true r).length) + 1 by omega, List.drop_succ_cons]
        exact h2
      · simp

theorem value_snoc (l : Bytes) (c : UInt8) : value (l ++ [c]) = 10 * value l + (c.toNat - 48) := by
  unfold value; rw [List.foldl_append]; rfl
theorem value_le (l m : Bytes) : value l ≤ value (l ++ m) := by
  induction m generalizing l with
  | nil => simp
  | cons c m ih =>
    have h := ih (l ++ [c])
    rw [value_snoc, List.append_assoc] at h
    simp only [List.singleton_append] at h
    omega
theorem value_take (l : Bytes) (k : Nat) : value (l.take k) ≤ value l := by
  have h := value_le (l.take k) (l.drop k)
  rwa [List.take_append_drop] at h

end Lex
end Go.Proofs.YtlgfickhkejdjaaGreatDoor

namespace Go.Proofs.YtlgfickhkejdjaaGreatDoor
open Go.RowKit

/-- a byte as the program has it -/
theorem letter_of (c : UInt8) : Lex.letter c = decide (97 ≤ (c.toNat : Int) ∧ (c.toNat : Int) ≤ 122 ∨ 65 ≤ (c.toNat : Int) ∧ (c.toNat : Int) ≤ 90) := by
  unfold Lex.letter; congr 1; simp only [eq_iff_iff]; omega
theorem digit_of (c : UInt8) : Lex.digit c = decide (48 ≤ (c.toNat : Int) ∧ (c.toNat : Int) ≤ 57) := by
  unfold Lex.digit; congr 1; simp only [eq_iff_iff]; omega

theorem bytes_beq (a b : ByteArray) : (a.toList == b.toList) = decide (a = b) := by
  rw [Bool.eq_iff_iff, beq_iff_eq, decide_eq_true_eq]
  constructor
  · intro h
    have h2 : a.data.toList = b.data.toList := by rw [← Lib.toList_data, ← Lib.toList_data]; exact h
    cases a; cases b; simp only at h2; simp_all
  · intro h; rw [h]

/-- In: is x one of the n strings? -/
def inB (zs : Nat → ByteArray) (x : ByteArray) (n : Nat) : Bool := (List.range n).any fun j => decide (zs j = x)
theorem inB_yes {zs : Nat → ByteArray} {x : ByteArray} {n k : Nat} (hk : k < n) (h : zs k = x) : inB zs x n = true := by
  unfold inB; rw [List.any_eq_true]; exact ⟨k, by simpa using hk, by simpa using h⟩
theorem inB_no {zs : Nat → ByteArray} {x : ByteArray} {n : Nat} (h : ∀ j, j < n → zs j ≠ x) : inB zs x n = false := by
  unfold inB; rw [List.any_eq_false]; intro j hj; simpa using h j (by simpa using hj)

theorem ret_bool {a b : Bool} (h : a = b) : Ending.returned (.bool a) = .returned (.bool b) := by rw [h]

set_option maxHeartbeats 400000 in
theorem in_any (b off n c : Nat) (zs : Nat → ByteArray) (x : ByteArray) (w : World) (hn : n ≤ 9223372036854775807) (hc : ∀ j, j < n → w.cell? ⟨b, off + j, none⟩ = some (.string (zs j))) :
    Calls Tryz.prog 109 #[.slice (some ⟨b, off, none⟩) n c, .string x] w fun e w' => e = .returned (.bool (inB zs x n)) ∧ w = w' := by
  have H := Lib.hid hc
  clear hc
  go_enter Tryz.func109, Tryz.ntmps109
  go_wp2
  go_loop [5] (fun i => ∃ k : Nat, k ≤ n ∧ i = .int .i64 k ∧ ∀ j, j < k → zs j ≠ x) (fun i => n - (intOf i).toNat)
  case atStart => exact ⟨0, Nat.zero_le _, rfl, fun j hj => by omega⟩
  case round =>
    obtain ⟨k, hk, rfl, hno⟩ := hrel
    have HN := Lib.hid hno
    clear hno
    by_cases hlt : k < n
    · have hcell := H.out k hlt
      by_cases he : zs k = x
      · have hf := Lib.hid he
        have he' : ((zs k).toList == x.toList) = true := by rw [bytes_beq]; simpa using he
        clear he
        go_wp2
        go_ret
        exact ⟨ret_bool (inB_yes hlt hf.out).symm, rfl⟩
      · have hf := Lib.hid he
        have he' : ((zs k).toList == x.toList) = false := by rw [bytes_beq]; simpa using he
        clear he
        go_wp2
        go_round
        case rel =>
          refine ⟨k + 1, by omega, by go_num, fun j hj => ?_⟩
          by_cases e : j = k
          · rw [e]; exact hf.out
          · exact HN.out j (by omega)
        case measure => simp [intOf]; omega
    · go_wp2
      go_ret
      exact ⟨ret_bool (inB_no fun j hj => HN.out j (by omega)).symm, rfl⟩

set_option maxHeartbeats 400000 in
theorem keywords_any (w : World) :
    Calls Tryz.prog 110 #[] w fun e w' => e = .returned (.slice (some ⟨w.heap.size, 0, none⟩) 24 24) ∧ w' = w.alloc (.cells ((Lex.keywords.map fun l => Value.string ⟨l.toArray⟩).toArray) 9) := by
  go_enter Tryz.func110, Tryz.ntmps110
  go_wp2
  go_ret
  exact ⟨rfl, rfl⟩

end Go.Proofs.YtlgfickhkejdjaaGreatDoor

namespace Go.Proofs.YtlgfickhkejdjaaGreatDoor
open Go.RowKit

/-- what is left of s from place k on -/
def rest (s : ByteArray) (k : Nat) : List UInt8 := s.data.toList.drop k

theorem rest_len (s : ByteArray) (k : Nat) : (rest s k).length = s.size - k := by unfold rest; rw [List.length_drop, ← Lib.size_eq]
theorem rest_cons (s : ByteArray) (k : Nat) (h : k < s.size) : rest s k = s[k] :: rest s (k + 1) := by
  unfold rest
  rw [List.drop_eq_getElem_cons (by rw [← Lib.size_eq]; exact h)]
  rfl
theorem rest_nil (s : ByteArray) (k : Nat) (h : s.size ≤ k) : rest s k = [] := by
  unfold rest; exact List.drop_eq_nil_iff.2 (by rw [← Lib.size_eq]; exact h)

theorem u8_eq (c : UInt8) (n : Nat) : ((c.toNat : Int) == (n : Int)) = decide (c.toNat = n) := by
  rw [Bool.eq_iff_iff, beq_iff_eq, decide_eq_true_eq]; omega

theorem space_iff (c : UInt8) : Lex.space c = true ↔ (c.toNat = 32 ∨ c.toNat = 9 ∨ c.toNat = 10 ∨ c.toNat = 13) := by unfold Lex.space; exact decide_eq_true_iff
theorem skip_t (c : UInt8) (r : List UInt8) : Lex.skip true (c :: r) = if c.toNat = 10 then Lex.skip false r else Lex.skip true r := rfl
theorem skip_f (c : UInt8) (r : List UInt8) : Lex.skip false (c :: r) = if Lex.space c then Lex.skip false r else if c.toNat = 35 then Lex.skip true r else c :: r := rfl
theorem skip_space (s : ByteArray) (k : Nat) (h : k < s.size) (a : s[k].toNat = 32 ∨ s[k].toNat = 9 ∨ s[k].toNat = 10 ∨ s[k].toNat = 13) :
    Lex.skip false (rest s k) = Lex.skip false (rest s (k + 1)) := by
  rw [rest_cons s k h, skip_f, if_pos ((space_iff _).2 a)]
theorem skip_hash (s : ByteArray) (k : Nat) (h : k < s.size) (a : s[k].toNat = 35) :
    Lex.skip false (rest s k) = Lex.skip true (rest s k) := by
  rw [rest_cons s k h, skip_f, if_neg (fun e => by rw [space_iff] at e; omega), if_pos a, skip_t, if_neg (by omega)]
theorem skip_other (s : ByteArray) (k : Nat) (h : k < s.size) (a : ¬ (s[k].toNat = 32 ∨ s[k].toNat = 9 ∨ s[k].toNat = 10 ∨ s[k].toNat = 13)) (b : ¬ s[k].toNat = 35) :
    Lex.skip false (rest s k) = rest s k := by
  rw [rest_cons s k h, skip_f, if_neg (fun e => a ((space_iff _).1 e)), if_neg b]
theorem skip_in (s : ByteArray) (k : Nat) (h : k < s.size) (a : ¬ s[k].toNat = 10) :
    Lex.skip true (rest s k) = Lex.skip true (rest s (k + 1)) := by
  rw [rest_cons s k h, skip_t, if_neg a]
theorem skip_out (s : ByteArray) (k : Nat) (h : k < s.size) (a : s[k].toNat = 10) :
    Lex.skip true (rest s k) = Lex.skip false (rest s k) := by
  rw [rest_cons s k h, skip_t, if_pos a, skip_f, if_pos ((space_iff _).2 (.inr (.inr (.inl a))))]
theorem beq_no (c : UInt8) (m : Int) (h : ¬ (c.toNat : Int) = m) : ((c.toNat : Int) == m) = false := by rw [beq_eq_false_iff_ne]; exact h
theorem beq_yes (c : UInt8) (m : Int) (h : (c.toNat : Int) = m) : ((c.toNat : Int) == m) = true := by rw [beq_iff_eq]; exact h
theorem skip_end (s : ByteArray) (k : Nat) (h : s.size ≤ k) (b : Bool) : Lex.skip b (rest s k) = [] := by
  rw [rest_nil s k h]; cases b <;> rfl
theorem skip_end2 (s : ByteArray) (k : Nat) (h : s.size ≤ k) : Lex.skip true (rest s k) = Lex.skip false (rest s k) := by
  rw [skip_end s k h, skip_end s k h]
theorem ret_i64 {a b : Int} (h : a = b) : Ending.returned (.int .i64 a) = .returned (.int .i64 b) := by rw [h]

end Go.Proofs.YtlgfickhkejdjaaGreatDoor

namespace Go.Proofs.YtlgfickhkejdjaaGreatDoor
open Go.RowKit

def numR (l : List UInt8) : Int × Int :=
  if 1 < l.length ∧ l.headD 0 = 48 then (0, 3) else if 2305843009213693951 < Lex.value l then (0, 2) else ((Lex.value l : Int), 0)

theorem numR_zero {l : List UInt8} (h : 1 < l.length ∧ l.headD 0 = 48) : numR l = (0, 3) := by unfold numR; rw [if_pos h]
theorem numR_big {l : List UInt8} (h : ¬ (1 < l.length ∧ l.headD 0 = 48)) (h2 : 2305843009213693951 < Lex.value l) : numR l = (0, 2) := by unfold numR; rw [if_neg h, if_pos h2]
theorem numR_ok {l : List UInt8} (h : ¬ (1 < l.length ∧ l.headD 0 = 48)) (h2 : Lex.value l ≤ 2305843009213693951) : numR l = ((Lex.value l : Int), 0) := by unfold numR; rw [if_neg h, if_neg (by omega)]

theorem ret_num {a b : Int × Int} (h : a = b) : Ending.returned (.tuple #[.int .i64 a.1, .int .i64 a.2]) = .returned (.tuple #[.int .i64 b.1, .int .i64 b.2]) := by rw [h]

theorem take_snoc (s : ByteArray) (k : Nat) (h : k < s.size) : s.data.toList.take (k + 1) = s.data.toList.take k ++ [s[k]] := by
  rw [List.take_succ_eq_append_getElem (by simpa using h)]; rfl
theorem head_get (s : ByteArray) (h : 0 < s.size) : s.data.toList.headD 0 = s[0] := by
  have := rest_cons s 0 h
  unfold rest at this
  rw [List.drop_zero] at this
  rw [this]; rfl

end Go.Proofs.YtlgfickhkejdjaaGreatDoor

namespace Go.Proofs.YtlgfickhkejdjaaGreatDoor
open Go.RowKit

/-- a token as a value -/
def tokV (k : Int) (t : List UInt8) (v p : Int) : Value := .agg #[.int .i64 k, .string ⟨t.toArray⟩, .int .i64 v, .int .i64 p]

/-- what next returns -/
def gotV (p : Int) : Lex.Got → Value
  | .bad e => .tuple #[tokV 0 [] 0 0, .int .i64 e]
  | .tok k t v => .tuple #[tokV k t v p, .int .i64 0]

theorem take_takeWhile {α : Type} (p : α → Bool) : ∀ l : List α, l.take (l.takeWhile p).length = l.takeWhile p
  | [] => rfl
  | a :: l => by
    by_cases h : p a
    · simp [h, take_takeWhile p l]
    · simp [h]

/-- where the run of bytes that meet p ends, from place k on -/
def runEnd (p : UInt8 → Bool) (s : ByteArray) (k : Nat) : Nat := k + ((rest s k).takeWhile p).length
theorem runEnd_yes {p : UInt8 → Bool} {s : ByteArray} {k : Nat} (h : k < s.size) (hp : p s[k] = true) : runEnd p s k = runEnd p s (k + 1) := by
  unfold runEnd; rw [rest_cons s k h, List.takeWhile_cons, if_pos hp, List.length_cons]; omega
theorem runEnd_no {p : UInt8 → Bool} {s : ByteArray} {k : Nat} (h : k < s.size) (hp : p s[k] = false) : runEnd p s k = k := by
  unfold runEnd; rw [rest_cons s k h, List.takeWhile_cons, if_neg (by rw [hp]; simp)]; simp
theorem runEnd_end {p : UInt8 → Bool} {s : ByteArray} {k : Nat} (h : s.size ≤ k) : runEnd p s k = k := by
  unfold runEnd; rw [rest_nil s k h]; simp
theorem runEnd_le {p : UInt8 → Bool} {s : ByteArray} {k : Nat} (h : k ≤ s.size) : runEnd p s k ≤ s.size := by
  unfold runEnd
  have := (List.takeWhile_sublist p (l := rest s k)).length_le
  rw [rest_len] at this
  omega
theorem runEnd_ge (p : UInt8 → Bool) (s : ByteArray) (k : Nat) : k ≤ runEnd p s k := by unfold runEnd; omega
theorem run_text (p : UInt8 → Bool) (s : ByteArray) (k : Nat) : s.extract k (runEnd p s k) = ⟨((rest s k).takeWhile p).toArray⟩ := by
  have h : (s.extract k (runEnd p s k)).data.toList = (rest s k).takeWhile p := by
    rw [Lib.extract_data]
    show (rest s k).take _ = _
    unfold runEnd
    rw [show k + ((rest s k).takeWhile p).length - k = ((rest s k).takeWhile p).length by omega]
    exact take_takeWhile p _
  rw [← h, Lib.mk_data]

def kwz (j : Nat) : ByteArray := ⟨(Lex.keywords.getD j []).toArray⟩
theorem strs_cell (ls : List (List UInt8)) {W : World} {h0 : Array Obj} {t : TypeId} {b : Nat} (hW : W.heap = h0.push (.cells ((ls.map fun l => Value.string ⟨l.toArray⟩).toArray) t)) (hb : b = h0.size) (j : Nat) (hj : j < ls.length) :
    W.cell? ⟨b, 0 + j, none⟩ = some (.string ⟨(ls.getD j []).toArray⟩) := by
  rw [Nat.zero_add]
  unfold World.cell?
  simp [hW, hb, hj]
theorem strs_in (ls : List (List UInt8)) (T : List UInt8) (n : Nat) (hn : n = ls.length) : inB (fun j => ⟨(ls.getD j []).toArray⟩) ⟨T.toArray⟩ n = ls.contains T := by
  subst hn
  rw [Bool.eq_iff_iff, List.contains_iff_mem]
  unfold inB
  rw [List.any_eq_true]
  constructor
  · rintro ⟨j, hj, he⟩
    have hk : j < ls.length := by simpa using hj
    have he2 : (⟨(ls.getD j []).toArray⟩ : ByteArray) = ⟨T.toArray⟩ := of_decide_eq_true he
    have : (ls.getD j []) = T := by
      have h3 := congrArg (fun x : ByteArray => x.data.toList) he2
      simpa using h3
    rw [← this, List.getD_eq_getElem?_getD, List.getElem?_eq_getElem hk]
    exact List.getElem_mem hk
  · intro h
    obtain ⟨j, hj, he⟩ := List.getElem_of_mem h
    refine ⟨j, by simpa using hj, ?_⟩
    show decide ((⟨(ls.getD j []).toArray⟩ : ByteArray) = ⟨T.toArray⟩) = true
    rw [List.getD_eq_getElem?_getD, List.getElem?_eq_getElem hj, Option.getD_some, he]
    simp

theorem nameAt_of {l T : List UInt8} (h : l.takeWhile Lex.wordc = T) : Lex.nameAt l = if 31 < T.length then .bad 8 else if Lex.keywords.contains T then .tok 4 T 0 else if (T.headD 0).toNat ≤ 90 then .tok 3 T 0 else .tok 2 T 0 := by
  unfold Lex.nameAt; rw [h]
theorem nameAt_big {l T : List UInt8} (h : l.takeWhile Lex.wordc = T) (h1 : 31 < T.length) : Lex.nameAt l = .bad 8 := by rw [nameAt_of h, if_pos h1]

end Go.Proofs.YtlgfickhkejdjaaGreatDoor

namespace Go.Proofs.YtlgfickhkejdjaaGreatDoor
open Go.RowKit

theorem numberAt_tail {l T : List UInt8} (h : l.takeWhile Lex.digit = T) (h1 : (l.drop T.length).head?.any Lex.tailc = true) : Lex.numberAt l = .bad 3 := by
  unfold Lex.numberAt; rw [h]; rw [if_pos h1]
theorem numberAt_of {l T : List UInt8} (h : l.takeWhile Lex.digit = T) (h1 : (l.drop T.length).head?.any Lex.tailc = false) :
    Lex.numberAt l = if 1 < T.length ∧ T.headD 0 = 48 then .bad 3 else if 2305843009213693951 < Lex.value T then .bad 2 else .tok 1 T (Lex.value T) := by
  unfold Lex.numberAt; rw [h]; simp only [h1, Bool.false_eq_true, if_false]

/-- the error of number, and what next makes of it -/
theorem numberAt_cases {l T : List UInt8} (h : l.takeWhile Lex.digit = T) (h1 : (l.drop T.length).head?.any Lex.tailc = false) :
    (((numR T).2 = 0) ∧ Lex.numberAt l = .tok 1 T (Lex.value T) ∧ (numR T).1 = Lex.value T ∧ Lex.value T ≤ 2305843009213693951) ∨ (∃ e : Nat, (numR T).2 = e ∧ e ≠ 0 ∧ Lex.numberAt l = .bad e) := by
  rw [numberAt_of h h1]
  unfold numR
  by_cases a : 1 < T.length ∧ T.headD 0 = 48
  · exact .inr ⟨3, by rw [if_pos a]; rfl, by omega, by rw [if_pos a]⟩
  · by_cases b : 2305843009213693951 < Lex.value T
    · exact .inr ⟨2, by rw [if_neg a, if_pos b]; rfl, by omega, by rw [if_neg a, if_pos b]⟩
    · exact .inl ⟨by rw [if_neg a, if_neg b], by rw [if_neg a, if_neg b], by rw [if_neg a, if_neg b], by omega⟩

theorem takeWhile_get {p : UInt8 → Bool} {l : List UInt8} {j : Nat} (h : j < (l.takeWhile p).length) : p ((l.takeWhile p)[j]) = true :=
  List.all_eq_true.1 (List.all_takeWhile (p := p) (l := l)) _ (List.getElem_mem h)

end Go.Proofs.YtlgfickhkejdjaaGreatDoor

namespace Go.Proofs.YtlgfickhkejdjaaGreatDoor
open Go.RowKit

theorem ext_take (s : ByteArray) (k n : Nat) : s.extract k (k + n) = ⟨((rest s k).take n).toArray⟩ := by
  have h : (s.extract k (k + n)).data.toList = (rest s k).take n := by
    rw [Lib.extract_data]
    unfold rest
    rw [show k + n - k = n by omega]
  rw [← h, Lib.mk_data]

def syz (j : Nat) : ByteArray := ⟨(Lex.symbols.getD j []).toArray⟩

theorem symbolAt_two {l : List UInt8} (h : 2 ≤ l.length) (h1 : Lex.symbols.contains (l.take 2) = true) : Lex.symbolAt l = .tok 5 (l.take 2) 0 := by
  unfold Lex.symbolAt; rw [if_pos ⟨h, h1⟩]
theorem symbolAt_one {l : List UInt8} (h : ¬ (2 ≤ l.length ∧ Lex.symbols.contains (l.take 2) = true)) (h1 : Lex.symbols.contains (l.take 1) = true) : Lex.symbolAt l = .tok 5 (l.take 1) 0 := by
  unfold Lex.symbolAt; rw [if_neg h, h1]; rfl
theorem symbolAt_no {l : List UInt8} (h : ¬ (2 ≤ l.length ∧ Lex.symbols.contains (l.take 2) = true)) (h1 : Lex.symbols.contains (l.take 1) = false) : Lex.symbolAt l = .bad 3 := by
  unfold Lex.symbolAt; rw [if_neg h, h1]; rfl

end Go.Proofs.YtlgfickhkejdjaaGreatDoor

namespace Go.Proofs.YtlgfickhkejdjaaGreatDoor
open Go.RowKit

theorem tokT : Tryz.prog.underlying 129 = some (.struct (Tryz.prog.fieldsOf 129)) := by kernel_rfl
theorem tokHeld : Tryz.prog.stoodInHeld 129 = false := by kernel_rfl

/-- the four cells of each token -/
def ToksAt (w : World) (b : Nat) (ts : List Lex.Tok) : Prop :=
  ∀ (j : Nat) (t : Lex.Tok), ts[j]? = some t → w.cell? ⟨b, j * 4, none⟩ = some (.int .i64 t.kind) ∧ w.cell? ⟨b, j * 4 + 1, none⟩ = some (.string ⟨t.text.toArray⟩) ∧
    w.cell? ⟨b, j * 4 + 2, none⟩ = some (.int .i64 t.val) ∧ w.cell? ⟨b, j * 4 + 3, none⟩ = some (.int .i64 t.pos)

theorem tok_neq (w : World) (a1 a3 a4 b1 b3 b4 : Int) (a2 b2 : ByteArray) :
    (binOp .neq 129 (.agg #[.int .i64 a1, .string a2, .int .i64 a3, .int .i64 a4]) (.agg #[.int .i64 b1, .string b2, .int .i64 b3, .int .i64 b4])).run Tryz.prog w
      = .ok (.bool (!(a1 == b1 && a2.toList == b2.toList && a3 == b3 && a4 == b4))) w := by
  rw [run_neq_struct, run_equalIn_struct w 9999 _ _ _ tokT tokHeld]
  by_cases h1 : a1 = b1 <;> by_cases h2 : a2.toList = b2.toList <;> by_cases h3 : a3 = b3 <;> by_cases h4 : a4 = b4 <;> simp [go_sem, Tryz.underlying129, h1, h2, h3, h4]

theorem tok_neq_true (t u : Lex.Tok) (h : t ≠ u) (w : World) :
    (binOp .neq 129 (.agg #[.int .i64 (t.kind : Nat), .string ⟨t.text.toArray⟩, .int .i64 (t.val : Nat), .int .i64 (t.pos : Nat)]) (.agg #[.int .i64 (u.kind : Nat), .string ⟨u.text.toArray⟩, .int .i64 (u.val : Nat), .int .i64 (u.pos : Nat)])).run Tryz.prog w
      = .ok (.bool true) w := by
  rw [tok_neq]
  congr 2
  rw [Bool.not_eq_true', Bool.eq_false_iff]
  intro hb
  simp only [Bool.and_eq_true, beq_iff_eq, Lib.toList_data] at hb
  apply h
  cases t; cases u
  simp only [Lex.Tok.mk.injEq]
  obtain ⟨⟨⟨h1, h2⟩, h3⟩, h4⟩ := hb
  exact ⟨Int.ofNat_inj.1 h1, h2, Int.ofNat_inj.1 h3, Int.ofNat_inj.1 h4⟩

theorem list_ext_get {α : Type} {a b : List α} {n : Nat} (ha : a.length = n) (hb : b.length = n) (h : ∀ j, j < n → a[j]? = b[j]?) : a = b := by
  apply List.ext_getElem?
  intro j
  by_cases hj : j < n
  · exact h j hj
  · rw [List.getElem?_eq_none (by omega), List.getElem?_eq_none (by omega)]

end Go.Proofs.YtlgfickhkejdjaaGreatDoor

namespace Go.Proofs.YtlgfickhkejdjaaGreatDoor
namespace Lex

theorem takeWhile_take {α : Type} (p : α → Bool) : ∀ l : List α, l.takeWhile p = l.take (l.takeWhile p).length
  | [] => rfl
  | a :: l => by
    by_cases h : p a
    · simp [h]; exact takeWhile_take p l
    · simp [h]
theorem takeWhile_le {α : Type} (p : α → Bool) (l : List α) : (l.takeWhile p).length ≤ l.length := (List.takeWhile_sublist p).length_le
theorem takeWhile_pos {α : Type} (p : α → Bool) (a : α) (l : List α) (h : p a = true) : 1 ≤ ((a :: l).takeWhile p).length := by
  rw [List.takeWhile_cons, if_pos h]; simp

/-- The token's text stands at the head. -/
theorem next_text {c : UInt8} {r : Bytes} {k : Nat} {t : Bytes} {v : Nat} (h : next (c :: r) = .tok k t v) : t = (c :: r).take t.length ∧ 1 ≤ t.length ∧ t.length ≤ (c :: r).length := by
  unfold next at h
  rw [List.headD_cons] at h
  by_cases hl : letter c = true
  · rw [if_pos hl] at h
    unfold nameAt at h
    have h1 := takeWhile_take wordc (c :: r)
    have h2 := takeWhile_le wordc (c :: r)
    have h3 := takeWhile_pos wordc c r (by unfold wordc; rw [hl]; rfl)
    generalize (c :: r).takeWhile wordc = T at h h1 h2 h3
    simp only at h
    split at h
    · cases h
    · split at h
      · cases h; exact ⟨h1, h3, h2⟩
      · split at h <;> (cases h; exact ⟨h1, h3, h2⟩)
  · rw [if_neg hl] at h
    by_cases hl : digit c = true
    · rw [if_pos hl] at h
      unfold numberAt at h
      have h1 := takeWhile_take digit (c :: r)
      have h2 := takeWhile_le digit (c :: r)
      have h3 := takeWhile_pos digit c r hl
      generalize (c :: r).takeWhile digit = T at h h1 h2 h3
      simp only at h
      split at h
      · cases h
      · split at h
        · cases h
        · split at h
          · cases h
          · cases h; exact ⟨h1, h3, h2⟩
    · rw [if_neg hl] at h
      unfold symbolAt at h
      split at h
      · rename_i hl
        cases h
        have e : ((c :: r).take 2).length = 2 := by rw [List.length_take]; omega
        rw [e]; exact ⟨rfl, by omega, hl.1⟩
      · split at h
        · cases h
          have e : ((c :: r).take 1).length = 1 := by rw [List.length_take]; simp
          rw [e]; exact ⟨rfl, by omega, by simp⟩
        · cases h

/-- An error is no 0. -/
theorem next_bad {l : Bytes} {e : Nat} (h : next l = .bad e) : 0 < e := by
  unfold next at h
  by_cases hl : letter (l.headD 0) = true
  · rw [if_pos hl] at h
    unfold nameAt at h
    simp only at h
    split at h
    · cases h; omega
    · split at h
      · cases h
      · split at h <;> cases h
  · rw [if_neg hl] at h
    by_cases hl : digit (l.headD 0) = true
    · rw [if_pos hl] at h
      unfold numberAt at h
      simp only at h
      split at h
      · cases h; omega
      · split at h
        · cases h; omega
        · split at h
          · cases h; omega
          · cases h
    · rw [if_neg hl] at h
      unfold symbolAt at h
      split at h
      · cases h
      · split at h
        · cases h
        · cases h; omega

/-- tokens ahead of a result -/
def pre (ts : List Tok) : Res → Res
  | .bad a e => .bad a e
  | .toks l => .toks (ts ++ l)
theorem pre_nil (r : Res) : pre [] r = r := by cases r <;> rfl

theorem scanF_nil (n f : Nat) : scanF n f [] = .toks [⟨0, [], 0, n⟩] := by cases f <;> rfl
theorem scanF_bad {n f : Nat} {c : UInt8} {r : Bytes} {e : Nat} (h : next (c :: r) = .bad e) : scanF n (f + 1) (c :: r) = .bad (n - (c :: r).length) e := by
  simp only [scanF, h]
theorem scanF_tok {n f : Nat} {c : UInt8} {r : Bytes} {k : Nat} {t : Bytes} {v : Nat} (h : next (c :: r) = .tok k t v) (ts : List Tok) :
    pre ts (scanF n (f + 1) (c :: r)) = pre (ts ++ [⟨k, t, v, n - (c :: r).length⟩]) (scanF n f (skip false ((c :: r).drop t.length))) := by
  simp only [scanF, h]
  cases scanF n f (skip false ((c :: r).drop t.length)) <;> simp [pre]

end Lex
end Go.Proofs.YtlgfickhkejdjaaGreatDoor

namespace Go.Proofs.YtlgfickhkejdjaaGreatDoor
open Go.RowKit

def tokCells (t : Lex.Tok) : List Value := [.int .i64 (t.kind : Nat), .string ⟨t.text.toArray⟩, .int .i64 (t.val : Nat), .int .i64 (t.pos : Nat)]
def toksCells (ts : List Lex.Tok) : List Value := ts.flatMap tokCells

/-- what Scan returns -/
def ScanPost (s : ByteArray) (w : World) (e : Ending) (w' : World) : Prop :=
  (∃ a er : Nat, Lex.scan s.data.toList = .bad a er ∧ e = .returned (.tuple #[.slice none 0 0, .int .i64 a, .int .i64 er]) ∧ Below w.heap.size w w') ∨
  (∃ (ts : List Lex.Tok) (v : Value), Lex.scan s.data.toList = .toks ts ∧ e = .returned (.tuple #[v, .int .i64 0, .int .i64 0]) ∧ w'.ownsRow w.heap.size 129 4 v ts.length (toksCells ts) ∧ Below w.heap.size w w')

theorem tokInfo : (Tryz.prog.info? 129).map (fun i => (i.zero, i.size, i.bytes)) = some (some (.agg #[.int .i64 0, .string ⟨#[]⟩, .int .i64 0, .int .i64 0]), 4, 40) := by kernel_rfl

theorem toksCells_snoc (ts : List Lex.Tok) (t : Lex.Tok) : toksCells (ts ++ [t]) = toksCells ts ++ tokCells t := by simp [toksCells]

/-- the invariant of the loop over the tokens -/
structure ScanInv (s : ByteArray) (B : Nat) (w : World) (k : Nat) (ts : List Lex.Tok) (out : Value) (wr : World) : Prop where
  le : k ≤ s.size
  few : ts.length ≤ k
  own : wr.ownsRow B 129 4 out ts.length (toksCells ts)
  below : Below B w wr
  same : ∃ f, (rest s k).length ≤ f ∧ Lex.scan s.data.toList = Lex.pre ts (Lex.scanF s.size f (rest s k))

theorem news_cells {W : World} {h0 : Array Obj} {cs : Array Value} {t : TypeId} {b : Nat} (hW : W.heap = h0.push (.cells cs t)) (hb : b = h0.size) (j : Nat) (u : Value) (h : cs.toList[j]? = some u) :
    W.cell? ((⟨b, 0, none⟩ : Addr).add j) = some u := by
  have hadd : (⟨b, 0, none⟩ : Addr).add j = ⟨b, j, none⟩ := by unfold Addr.add; split <;> simp_all
  rw [hadd]
  unfold World.cell?
  simp [hW, hb]
  simpa using h

theorem below_grown {w w' : World} (h : Below w.heap.size w w') : w.grownBy w' none := ⟨h.os, h.tape, h.output, h.size, fun k hk _ => h.block k hk⟩
theorem own_below {w w' : World} {base : Nat} {e : TypeId} {size : Nat} {v : Value} {n : Nat} {xs : List Value} (h : w.ownsRow base e size v n xs) (hb : Below w.heap.size w w') : w'.ownsRow base e size v n xs :=
  h.kept (below_grown hb) (by cases v.ownBlock <;> simp)

theorem rest_skip (s : ByteArray) (k : Nat) (hk : k ≤ s.size) : rest s (s.size - (Lex.skip false (rest s k)).length) = Lex.skip false (rest s k) := by
  have h := Lex.skip_drop false (rest s k)
  have hle := Lex.skip_le false (rest s k)
  rw [rest_len] at h hle
  conv => rhs; rw [h]
  unfold rest
  rw [List.drop_drop]
  congr 1
  unfold rest at hle
  omega

end Go.Proofs.YtlgfickhkejdjaaGreatDoor

namespace Go.Proofs.YtlgfickhkejdjaaGreatDoor

theorem bl_trans : ∀ a b c : List UInt8, Op.bytesLess a b = true → Op.bytesLess b c = true → Op.bytesLess a c = true
  | _, [], _, h, _ => by simp [Op.bytesLess] at h
  | _, _ :: _, [], _, h => by simp [Op.bytesLess] at h
  | [], _ :: _, _ :: _, _, _ => by simp [Op.bytesLess]
  | x :: a, y :: b, z :: c, h1, h2 => by
    simp only [Op.bytesLess, Bool.or_eq_true, Bool.and_eq_true, decide_eq_true_eq, beq_iff_eq] at h1 h2 ⊢
    rcases h1 with h1 | ⟨rfl, h1⟩
    · rcases h2 with h2 | ⟨rfl, _⟩
      · exact .inl (UInt8.lt_trans h1 h2)
      · exact .inl h1
    · rcases h2 with h2 | ⟨rfl, h2⟩
      · exact .inl h2
      · exact .inr ⟨rfl, bl_trans a b c h1 h2⟩
theorem bl_irrefl : ∀ a : List UInt8, Op.bytesLess a a = false
  | [] => rfl
  | x :: a => by
    simp only [Op.bytesLess, Bool.or_eq_false_iff, decide_eq_false_iff_not, Bool.and_eq_false_iff]
    exact ⟨UInt8.lt_irrefl x, .inr (bl_irrefl a)⟩

theorem bs_inv (less : Nat → Bool) (n : Nat) (hm : ∀ a b, a ≤ b → b < n → less b = true → less a = true) : ∀ f lo hi, hi - lo ≤ f → lo ≤ hi → hi ≤ n →
    (∀ t, t < lo → less t = true) → (∀ t, hi ≤ t → t < n → less t = false) →
    Lib.bsGo less f lo hi ≤ n ∧ (∀ t, t < Lib.bsGo less f lo hi → less t = true) ∧ (∀ t, Lib.bsGo less f lo hi ≤ t → t < n → less t = false)
  | 0, lo, hi, hf, h1, h2, h3, h4 => by
    have e : lo = hi := by omega
    subst e
    exact ⟨h2, h3, h4⟩
  | f + 1, lo, hi, hf, h1, h2, h3, h4 => by
    unfold Lib.bsGo
    by_cases h : lo < hi
    · rw [if_pos h]
      cases hl : less ((lo + hi) / 2)
      · rw [if_neg (by simp)]
        refine bs_inv less n hm f lo _ (by omega) (by omega) (by omega) h3 fun t ht htn => ?_
        cases hx : less t
        · rfl
        · rw [hm _ t ht htn hx] at hl; cases hl
      · rw [if_pos rfl]
        refine bs_inv less n hm f _ hi (by omega) (by omega) h2 (fun t ht => hm t _ (by omega) (by omega) hl) h4
    · rw [if_neg h]
      have e : lo = hi := by omega
      subst e
      exact ⟨h2, h3, h4⟩

/-- the search finds just what the increasing list contains -/
theorem bs_found (ls : List (List UInt8)) (hs : ∀ a b, a < b → b < ls.length → Op.bytesLess (ls.getD a []) (ls.getD b []) = true) (x : List UInt8) (I : Nat)
    (hI : I = Lib.bsGo (fun t => Op.bytesLess (ls.getD t []) x) ls.length 0 ls.length) : decide (I < ls.length ∧ ls.getD I [] = x) = ls.contains x := by
  have hmono : ∀ a b, a ≤ b → b < ls.length → (fun t => Op.bytesLess (ls.getD t []) x) b = true → (fun t => Op.bytesLess (ls.getD t []) x) a = true := by
    intro a b hab hb h
    by_cases e : a = b
    · subst e; exact h
    · exact bl_trans _ _ _ (hs a b (by omega) hb) h
  obtain ⟨i1, i2, i3⟩ := bs_inv _ ls.length hmono ls.length 0 ls.length (by omega) (by omega) (Nat.le_refl _) (fun t ht => by omega) (fun t h1 h2 => by omega)
  rw [← hI] at i1 i2 i3
  rw [Bool.eq_iff_iff, decide_eq_true_eq, List.contains_iff_mem]
  constructor
  · rintro ⟨h1, h2⟩
    rw [← h2, List.getD_eq_getElem?_getD, List.getElem?_eq_getElem h1]
    exact List.getElem_mem h1
  · intro h
    obtain ⟨k, hk, he⟩ := List.getElem_of_mem h
    have hek : ls.getD k [] = x := by rw [List.getD_eq_getElem?_getD, List.getElem?_eq_getElem hk]; exact he
    have hIk : I ≤ k := by
      apply Nat.le_of_not_lt
      intro hlt
      have := i2 k hlt
      simp only [hek, bl_irrefl] at this
      cases this
    have hlt : I < ls.length := by omega
    refine ⟨hlt, ?_⟩
    by_cases e : I = k
    · rw [e]; exact hek
    · have h5 := hs I k (by omega) hk
      rw [hek] at h5
      have h6 := i3 I (Nat.le_refl _) hlt
      simp only [h5] at h6
      cases h6

theorem kw_sorted : ∀ a b, a < b → b < Lex.keywords.length → Op.bytesLess (Lex.keywords.getD a []) (Lex.keywords.getD b []) = true := by
  intro a b hab hb
  have h : ∀ b, b < 24 → ∀ a, a < b → Op.bytesLess (Lex.keywords.getD a []) (Lex.keywords.getD b []) = true := by decide +kernel
  exact h b hb a hab

end Go.Proofs.YtlgfickhkejdjaaGreatDoor

namespace Go.Proofs.YtlgfickhkejdjaaGreatDoor

theorem value_ge (l : List UInt8) : ∀ acc : Nat, acc ≤ l.foldl (fun n c => 10 * n + (c.toNat - 48)) acc := by
  induction l with
  | nil => intro acc; exact Nat.le_refl _
  | cons c r ih =>
    intro acc
    have := ih (10 * acc + (c.toNat - 48))
    rw [List.foldl_cons]
    omega

theorem parseUintM_digits : ∀ (l : List UInt8) (acc : Nat), (∀ c ∈ l, 48 ≤ c.toNat ∧ c.toNat ≤ 57) → acc ≤ 18446744073709551615 →
    Lib.parseUintM 18446744073709551615 acc l = if l.foldl (fun n c => 10 * n + (c.toNat - 48)) acc ≤ 18446744073709551615 then .ok (l.foldl (fun n c => 10 * n + (c.toNat - 48)) acc) else .range
  | [], acc, _, h => by rw [Lib.parseUintM, List.foldl_nil, if_pos h]
  | c :: r, acc, hd, h => by
    have hc := hd c (by simp)
    have hge := value_ge r (10 * acc + (c.toNat - 48))
    rw [Lib.parseUintM, if_pos hc, List.foldl_cons]
    by_cases h1 : 1844674407370955162 ≤ acc
    · rw [if_pos h1, if_neg (by omega)]
    · rw [if_neg h1]
      by_cases h2 : 18446744073709551615 < acc * 10 + (c.toNat - 48)
      · rw [if_pos h2, if_neg (by omega)]
      · rw [if_neg h2, show acc * 10 + (c.toNat - 48) = 10 * acc + (c.toNat - 48) by omega]
        exact parseUintM_digits r _ (fun x hx => hd x (by simp [hx])) (by omega)

theorem parseInt_digits (l : List UInt8) (hne : l ≠ []) (hd : ∀ c ∈ l, 48 ≤ c.toNat ∧ c.toNat ≤ 57) :
    Lib.parseIntB 64 l = if Lex.value l < 9223372036854775808 then .ok (Lex.value l : Int) else .range := by
  cases l with
  | nil => exact absurd rfl hne
  | cons c r =>
    have hc := hd c (by simp)
    have hsign : ¬ (c.toNat = 43 ∨ c.toNat = 45) := by omega
    unfold Lib.parseIntB
    simp only [if_neg hsign]
    have hU : Lib.parseUintB 64 (c :: r) = if Lex.value (c :: r) ≤ 18446744073709551615 then .ok (Lex.value (c :: r)) else .range := by
      unfold Lib.parseUintB
      rw [if_neg (by simp)]
      exact parseUintM_digits (c :: r) 0 hd (by omega)
    rw [hU]
    have h45 : ¬ c.toNat = 45 := by omega
    by_cases h1 : Lex.value (c :: r) ≤ 18446744073709551615
    · rw [if_pos h1]
      simp only [h45, not_false_eq_true, true_and, false_and, if_false]
      by_cases h2 : Lex.value (c :: r) < 9223372036854775808
      · rw [if_pos h2, if_neg (by show ¬ 9223372036854775808 ≤ _; omega)]
      · rw [if_neg h2, if_pos (by show 9223372036854775808 ≤ _; omega)]
    · rw [if_neg h1, if_neg (by omega)]
end Go.Proofs.YtlgfickhkejdjaaGreatDoor
