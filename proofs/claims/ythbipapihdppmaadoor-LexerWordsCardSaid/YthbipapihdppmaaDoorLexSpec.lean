/-
  The lexer's specification as plain functions on lists of bytes: spaces and comments, the token at the head of a text, the tokens of a text. No program in sight.
-/
namespace Go.Proofs.YthbipapihdppmaaDoor
namespace Lex

abbrev Bytes := List UInt8

def letter (c : UInt8) : Bool := decide (97 ≤ c.toNat ∧ c.toNat ≤ 122 ∨ 65 ≤ c.toNat ∧ c.toNat ≤ 90)
def digit (c : UInt8) : Bool := decide (48 ≤ c.toNat ∧ c.toNat ≤ 57)
/-- a letter, a digit or an underscore -/
def wordc (c : UInt8) : Bool := letter c || digit c || decide (c.toNat = 95)
/-- a letter or an underscore -/
def tailc (c : UInt8) : Bool := letter c || decide (c.toNat = 95)
def space (c : UInt8) : Bool := decide (c.toNat = 32 ∨ c.toNat = 9 ∨ c.toNat = 10 ∨ c.toNat = 13)

/-- The text without the spaces and comments at its beginning (true: inside a comment). -/
def skip : Bool → Bytes → Bytes
  | _, [] => []
  | true, c :: r => if c.toNat = 10 then skip false r else skip true r
  | false, c :: r => if space c then skip false r else if c.toNat = 35 then skip true r else c :: r

structure Tok where
  kind : Nat
  text : Bytes
  val : Nat
  pos : Nat
  deriving DecidableEq, Inhabited

def keywords : List Bytes := [[97, 99, 116, 111, 114], [97, 110, 100], [97, 116], [98, 121], [101, 108, 115, 101], [103, 101, 116], [105, 102], [108, 101, 116], [109, 111, 118, 101], [110, 101, 119], [110, 105, 108], [110, 111, 116], [111, 110], [111, 114], [112, 114, 105, 110, 116], [114, 101, 99, 111, 114, 100], [114, 101, 116, 117, 114, 110], [115, 101, 110, 100], [116, 104, 105, 115], [116, 111], [118, 97, 114], [119, 97, 116, 99, 104], [119, 101, 97, 107], [119, 104, 105, 108, 101]]
def symbols : List Bytes := [[33, 61], [37], [40], [41], [42], [43], [44], [45], [46], [47], [59], [60], [60, 61], [61], [61, 61], [62], [62, 61], [123], [125]]

/-- The value of digits. -/
def value (l : Bytes) : Nat := l.foldl (fun n c => 10 * n + (c.toNat - 48)) 0

/-- The errors: 2 (range), 3 (syntax), 8 (too large). -/
inductive Got where
  | bad (e : Nat)
  | tok (kind : Nat) (text : Bytes) (val : Nat)
  deriving DecidableEq, Inhabited

def nameAt (l : Bytes) : Got :=
  let t := l.takeWhile wordc
  if 31 < t.length then .bad 8
  else if keywords.contains t then .tok 4 t 0
  else if (t.headD 0).toNat ≤ 90 then .tok 3 t 0
  else .tok 2 t 0

def numberAt (l : Bytes) : Got :=
  let t := l.takeWhile digit
  if (l.drop t.length).head?.any tailc then .bad 3
  else if 1 < t.length ∧ t.headD 0 = 48 then .bad 3
  else if 2305843009213693951 < value t then .bad 2
  else .tok 1 t (value t)

def symbolAt (l : Bytes) : Got :=
  if 2 ≤ l.length ∧ symbols.contains (l.take 2) = true then .tok 5 (l.take 2) 0
  else if symbols.contains (l.take 1) then .tok 5 (l.take 1) 0
  else .bad 3

/-- The token at the head of a text that is not empty. -/
def next (l : Bytes) : Got :=
  if letter (l.headD 0) then nameAt l else if digit (l.headD 0) then numberAt l else symbolAt l

inductive Res where
  | bad (at_ : Nat) (e : Nat)
  | toks (l : List Tok)
  deriving DecidableEq, Inhabited

/-- The tokens of a text whose spaces in front are gone, with offsets from pos on; n is the length of the whole source. Fuel: at least the text's length. -/
def scanF (n : Nat) : Nat → Bytes → Res
  | _, [] => .toks [⟨0, [], 0, n⟩]
  | 0, _ :: _ => .bad 0 0
  | f + 1, c :: r =>
    match next (c :: r) with
    | .bad e => .bad (n - (c :: r).length) e
    | .tok k t v =>
      match scanF n f (skip false ((c :: r).drop t.length)) with
      | .bad a e => .bad a e
      | .toks l => .toks (⟨k, t, v, n - (c :: r).length⟩ :: l)

/-- What Scan returns. -/
def scan (s : Bytes) : Res :=
  if 16384 < s.length then .bad 0 8 else scanF s.length (s.length) (skip false s)

theorem skip_le : ∀ (b : Bool) (l : Bytes), (skip b l).length ≤ l.length
  | b, [] => by cases b <;> simp [skip]
  | true, c :: r => by
    have h1 := skip_le false r
    have h2 := skip_le true r
    simp only [skip, List.length_cons]
    split <;> omega
  | false, c :: r => by
    have h1 := skip_le false r
    have h2 := skip_le true r
    simp only [skip, List.length_cons]
    split
    · omega
    · split
      · omega
      · simp

/-- What is left is an end of the text. -/
theorem skip_drop : ∀ (b : Bool) (l : Bytes), skip b l = l.drop (l.length - (skip b l).length)
  | b, [] => by cases b <;> simp [skip]
  | true, c :: r => by
    have h1 := skip_drop false r
    have h2 := skip_drop true r
    have l1 := skip_le false r
    have l2 := skip_le true r
    simp only [skip, List.length_cons]
    split
    · rw [show r.length + 1 - (skip false r).length = (r.length - (skip false r).length) + 1 by omega, List.drop_succ_cons]
      exact h1
    · rw [show r.length + 1 - (skip true r).length = (r.length - (skip true r).length) + 1 by omega, List.drop_succ_cons]
      exact h2
  | false, c :: r => by
    have h1 := skip_drop false r
    have h2 := skip_drop true r
    have l1 := skip_le false r
    have l2 := skip_le true r
    simp only [skip, List.length_cons]
    split
    · rw [show r.length + 1 - (skip false r).length = (r.length - (skip false r).length) + 1 by omega, List.drop_succ_cons]
      exact h1
    · split
      · rw [show r.length + 1 - (skip true r).length = (r.length - (skip true r).length) + 1 by omega, List.drop_succ_cons]
        exact h2
      · simp

theorem value_snoc (l : Bytes) (c : UInt8) : value (l ++ [c]) = 10 * value l + (c.toNat - 48) := by
  unfold value; rw [List.foldl_append]; rfl
theorem value_le (l m : Bytes) : value l ≤ value (l ++ m) := by
  induction m generalizing l with
  | nil => simp
  | cons c m ih =>
    have h := ih (l ++ [c])
    rw [value_snoc, List.append_assoc] at h
    simp only [List.singleton_append] at h
    omega
theorem value_take (l : Bytes) (k : Nat) : value (l.take k) ≤ value l := by
  have h := value_le (l.take k) (l.drop k)
  rwa [List.take_append_drop] at h

end Lex
end Go.Proofs.YthbipapihdppmaaDoor
