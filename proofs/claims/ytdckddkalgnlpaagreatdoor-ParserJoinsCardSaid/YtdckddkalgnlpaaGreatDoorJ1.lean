/-
  Several texts in one: Tree, LexSpec, TrSpec, LexRefB, LexRefC, LexRefD, LexRefE, LexRefF, LexRefG, LexSpec2, LexRefH.
-/
import Derived.Below
import Derived.Deep.Slices
import Derived.Deep.Fields
import Derived.ChangeSame
import Derived.Test.YtdckddkalgnlpaaGreatDoorRows
import Derived.WalkKit
import Derived.WalkSpells
import Derived.WalkLawsBesides
import Derived.Lib.Hide
import Derived.Lib.Strings
import Derived.Deep.RegionHeld3
import Derived.Deep.QuietTactic
import Derived.BigQuiet
import Derived.IntWalk
import Derived.Laws.StructEq
namespace Go.Proofs.YtdckddkalgnlpaaGreatDoor
open Go.RowKit
namespace Tr
inductive E where
  | mk (kind op int : Int) (name : ByteArray) (at_ : Bool) (args : List E)
def E.kind : E → Int | .mk k _ _ _ _ _ => k
def E.op : E → Int | .mk _ o _ _ _ _ => o
def E.int : E → Int | .mk _ _ i _ _ _ => i
def E.name : E → ByteArray | .mk _ _ _ n _ _ => n
def E.at_ : E → Bool | .mk _ _ _ _ a _ => a
def E.args : E → List E | .mk _ _ _ _ _ l => l
inductive S where
  | mk (kind : Int) (name : ByteArray) (exprs : List E) (body els : List S)
def S.kind : S → Int | .mk k _ _ _ _ => k
def S.name : S → ByteArray | .mk _ n _ _ _ => n
def S.exprs : S → List E | .mk _ _ x _ _ => x
def S.body : S → List S | .mk _ _ _ b _ => b
def S.els : S → List S | .mk _ _ _ _ b => b
structure M where
  name : ByteArray
  params : List ByteArray
  body : List S
structure C where
  name : ByteArray
  actor : Bool
  fields : List ByteArray
  methods : List M
def I64 (n : Int) : Prop := -9223372036854775808 ≤ n ∧ n ≤ 9223372036854775807
/-- how deep a tree is -/
def E.deep : E → Nat
  | .mk _ _ _ _ _ args => 1 + deeps args
where deeps : List E → Nat
  | [] => 0
  | e :: r => max (E.deep e) (deeps r)
def S.deep : S → Nat
  | .mk _ _ _ body els => 1 + max (deeps body) (deeps els)
where deeps : List S → Nat
  | [] => 0
  | e :: r => max (S.deep e) (deeps r)
theorem E.deeps_get : ∀ (l : List E) (j : Nat) (e : E), l[j]? = some e → E.deep e ≤ E.deep.deeps l
  | [], j, e, h => by simp at h
  | x :: r, 0, e, h => by cases h; unfold E.deep.deeps; exact Nat.le_max_left _ _
  | x :: r, j + 1, e, h => by
    unfold E.deep.deeps
    exact Nat.le_trans (E.deeps_get r j e (by simpa using h)) (Nat.le_max_right _ _)
theorem S.deeps_get : ∀ (l : List S) (j : Nat) (e : S), l[j]? = some e → S.deep e ≤ S.deep.deeps l
  | [], j, e, h => by simp at h
  | x :: r, 0, e, h => by cases h; unfold S.deep.deeps; exact Nat.le_max_left _ _
  | x :: r, j + 1, e, h => by
    unfold S.deep.deeps
    exact Nat.le_trans (S.deeps_get r j e (by simpa using h)) (Nat.le_max_right _ _)
end Tr
/-- what an expression's own cells are, but for its arguments -/
structure BdE (e : Tr.E) : Prop where
  kind : Tr.I64 e.kind
  op : Tr.I64 e.op
  int : Tr.I64 e.int
  name : e.name.size ≤ maxLen
structure BdS (s : Tr.S) : Prop where
  kind : Tr.I64 s.kind
  name : s.name.size ≤ maxLen
/-- the six cells of an expression at offset o of block b -/
def CellsE (w : World) (b o : Nat) (e : Tr.E) (a : Value) : Prop :=
  w.cell? ⟨b, o, none⟩ = some (.int .i64 e.kind) ∧ w.cell? ⟨b, o + 1, none⟩ = some (.int .i64 e.op) ∧ w.cell? ⟨b, o + 2, none⟩ = some (.int .i64 e.int) ∧
  w.cell? ⟨b, o + 3, none⟩ = some (.string e.name) ∧ w.cell? ⟨b, o + 4, none⟩ = some (.bool e.at_) ∧ w.cell? ⟨b, o + 5, none⟩ = some a
def CellsS (w : World) (b o : Nat) (s : Tr.S) (x y z : Value) : Prop :=
  w.cell? ⟨b, o, none⟩ = some (.int .i64 s.kind) ∧ w.cell? ⟨b, o + 1, none⟩ = some (.string s.name) ∧
  w.cell? ⟨b, o + 2, none⟩ = some x ∧ w.cell? ⟨b, o + 3, none⟩ = some y ∧ w.cell? ⟨b, o + 4, none⟩ = some z
/-- the slice value reads as the list of expressions -/
inductive SlE (w : World) : Value → List Tr.E → Prop
  | nil (p : Option Addr) (c : Nat) : SlE w (.slice p 0 c) []
  | row (b o c : Nat) (l : List Tr.E) (A : Nat → Value) (hn : l.length ≤ c) (hm : c ≤ maxLen) (hc : ∀ j e, l[j]? = some e → CellsE w b (o + j * 6) e (A j) ∧ BdE e)
      (ha : ∀ j e, l[j]? = some e → SlE w (A j) e.args) : SlE w (.slice (some ⟨b, o, none⟩) l.length c) l
inductive SlS (w : World) : Value → List Tr.S → Prop
  | nil (p : Option Addr) (c : Nat) : SlS w (.slice p 0 c) []
  | row (b o c : Nat) (l : List Tr.S) (X Y Z : Nat → Value) (hn : l.length ≤ c) (hm : c ≤ maxLen) (hc : ∀ j s, l[j]? = some s → CellsS w b (o + j * 5) s (X j) (Y j) (Z j) ∧ BdS s)
      (hx : ∀ j s, l[j]? = some s → SlE w (X j) s.exprs) (hy : ∀ j s, l[j]? = some s → SlS w (Y j) s.body) (hz : ∀ j s, l[j]? = some s → SlS w (Z j) s.els) : SlS w (.slice (some ⟨b, o, none⟩) l.length c) l
theorem cell_lt' {w : World} {b o : Nat} {v : Value} (h : w.cell? ⟨b, o, none⟩ = some v) : b < w.heap.size := by
  rcases Nat.lt_or_ge b w.heap.size with hlt | hge
  · exact hlt
  · unfold World.cell? at h
    rw [Array.getElem?_eq_none hge] at h
    cases h
theorem cell_keep' {w w' : World} {b o : Nat} {v : Value} (hb : Below w.heap.size w w') (h : w.cell? ⟨b, o, none⟩ = some v) : w'.cell? ⟨b, o, none⟩ = some v :=
  (hb.cell (cell_lt' h)).trans h
theorem CellsE.keep {w w' : World} {b o : Nat} {e : Tr.E} {a : Value} (h : CellsE w b o e a) (hb : Below w.heap.size w w') : CellsE w' b o e a :=
  ⟨cell_keep' hb h.1, cell_keep' hb h.2.1, cell_keep' hb h.2.2.1, cell_keep' hb h.2.2.2.1, cell_keep' hb h.2.2.2.2.1, cell_keep' hb h.2.2.2.2.2⟩
theorem CellsS.keep {w w' : World} {b o : Nat} {e : Tr.S} {x y z : Value} (h : CellsS w b o e x y z) (hb : Below w.heap.size w w') : CellsS w' b o e x y z :=
  ⟨cell_keep' hb h.1, cell_keep' hb h.2.1, cell_keep' hb h.2.2.1, cell_keep' hb h.2.2.2.1, cell_keep' hb h.2.2.2.2⟩
theorem SlE.keep {w w' : World} {v : Value} {l : List Tr.E} (h : SlE w v l) (hb : Below w.heap.size w w') : SlE w' v l := by
  induction h with
  | nil p c => exact .nil p c
  | row b o c l A hn hm hc ha ih => exact .row b o c l A hn hm (fun j e hj => ⟨(hc j e hj).1.keep hb, (hc j e hj).2⟩) (fun j e hj => ih j e hj)
theorem SlS.keep {w w' : World} {v : Value} {l : List Tr.S} (h : SlS w v l) (hb : Below w.heap.size w w') : SlS w' v l := by
  induction h with
  | nil p c => exact .nil p c
  | row b o c l X Y Z hn hm hc hx hy hz ih1 ih2 => exact .row b o c l X Y Z hn hm (fun j e hj => ⟨(hc j e hj).1.keep hb, (hc j e hj).2⟩) (fun j e hj => (hx j e hj).keep hb) (fun j e hj => ih1 j e hj) (fun j e hj => ih2 j e hj)
theorem SlE.form {w : World} {v : Value} {l : List Tr.E} (h : SlE w v l) : ∃ p c, v = .slice p l.length c ∧ (l ≠ [] → l.length ≤ c ∧ c ≤ maxLen) := by
  cases h with
  | nil p c => exact ⟨p, c, rfl, fun h => absurd rfl h⟩
  | row b o c l A hn hm hc ha => exact ⟨_, c, rfl, fun _ => ⟨hn, hm⟩⟩
theorem SlS.form {w : World} {v : Value} {l : List Tr.S} (h : SlS w v l) : ∃ p c, v = .slice p l.length c ∧ (l ≠ [] → l.length ≤ c ∧ c ≤ maxLen) := by
  cases h with
  | nil p c => exact ⟨p, c, rfl, fun h => absurd rfl h⟩
  | row b o c l X Y Z hn hm hc hx hy hz => exact ⟨_, c, rfl, fun _ => ⟨hn, hm⟩⟩
theorem SlE.len {w : World} {v : Value} {l : List Tr.E} (h : SlE w v l) : l.length ≤ maxLen := by
  cases h with
  | nil p c => exact Nat.zero_le _
  | row b o c l A hn hm hc ha => omega
theorem SlS.len {w : World} {v : Value} {l : List Tr.S} (h : SlS w v l) : l.length ≤ maxLen := by
  cases h with
  | nil p c => exact Nat.zero_le _
  | row b o c l X Y Z hn hm hc hx hy hz => omega
/-- element j: where it lies, its cells, its arguments -/
theorem SlE.get {w : World} {p : Option Addr} {n c : Nat} {l : List Tr.E} (h : SlE w (.slice p n c) l) {j : Nat} {e : Tr.E} (hj : l[j]? = some e) :
    ∃ b o a, p = some ⟨b, o, none⟩ ∧ b < w.heap.size ∧ CellsE w b (o + j * 6) e a ∧ BdE e ∧ SlE w a e.args := by
  generalize hv : (Value.slice p n c) = v at h
  cases h with
  | nil p c => simp at hj
  | row b o c l A hn hm hc ha => cases hv; exact ⟨b, o, A j, rfl, cell_lt' (hc j e hj).1.1, (hc j e hj).1, (hc j e hj).2, ha j e hj⟩
theorem SlS.get {w : World} {p : Option Addr} {n c : Nat} {l : List Tr.S} (h : SlS w (.slice p n c) l) {j : Nat} {e : Tr.S} (hj : l[j]? = some e) :
    ∃ b o x y z, p = some ⟨b, o, none⟩ ∧ b < w.heap.size ∧ CellsS w b (o + j * 5) e x y z ∧ BdS e ∧ SlE w x e.exprs ∧ SlS w y e.body ∧ SlS w z e.els := by
  generalize hv : (Value.slice p n c) = v at h
  cases h with
  | nil p c => simp at hj
  | row b o c l X Y Z hn hm hc hx hy hz => cases hv; exact ⟨b, o, X j, Y j, Z j, rfl, cell_lt' (hc j e hj).1.1, (hc j e hj).1, (hc j e hj).2, hx j e hj, hy j e hj, hz j e hj⟩
/-- the slice value reads as a list of strings -/
def SlStr (w : World) (v : Value) (l : List ByteArray) : Prop :=
  ∃ p c, v = .slice p l.length c ∧ l.length ≤ maxLen ∧ (l ≠ [] → l.length ≤ c ∧ c ≤ maxLen) ∧ ∀ j s, l[j]? = some s → s.size ≤ maxLen ∧ ∃ b o, p = some ⟨b, o, none⟩ ∧ b < w.heap.size ∧ w.cell? ⟨b, o + j, none⟩ = some (.string s)
theorem SlStr.keep {w w' : World} {v : Value} {l : List ByteArray} (h : SlStr w v l) (hb : Below w.heap.size w w') : SlStr w' v l := by
  obtain ⟨p, c, e, hl, hn, hx⟩ := h
  refine ⟨p, c, e, hl, hn, fun j s hj => ?_⟩
  obtain ⟨hs, b, o, e2, h1, h2⟩ := hx j s hj
  exact ⟨hs, b, o, e2, Nat.lt_of_lt_of_le h1 hb.size, cell_keep' hb h2⟩
def CellsM (w : World) (b o : Nat) (m : Tr.M) (x y : Value) : Prop :=
  w.cell? ⟨b, o, none⟩ = some (.string m.name) ∧ w.cell? ⟨b, o + 1, none⟩ = some x ∧ w.cell? ⟨b, o + 2, none⟩ = some y
def SlM (w : World) (v : Value) (l : List Tr.M) : Prop :=
  ∃ p c, v = .slice p l.length c ∧ l.length ≤ maxLen ∧ (l ≠ [] → l.length ≤ c ∧ c ≤ maxLen) ∧ ∀ j m, l[j]? = some m → m.name.size ≤ maxLen ∧ ∃ b o x y, p = some ⟨b, o, none⟩ ∧ b < w.heap.size ∧ CellsM w b (o + j * 3) m x y ∧ SlStr w x m.params ∧ SlS w y m.body
theorem SlM.keep {w w' : World} {v : Value} {l : List Tr.M} (h : SlM w v l) (hb : Below w.heap.size w w') : SlM w' v l := by
  obtain ⟨p, c, e, hl, hn, hx⟩ := h
  refine ⟨p, c, e, hl, hn, fun j s hj => ?_⟩
  obtain ⟨hs, b, o, x, y, e2, h1, h2, h3, h4⟩ := hx j s hj
  exact ⟨hs, b, o, x, y, e2, Nat.lt_of_lt_of_le h1 hb.size, ⟨cell_keep' hb h2.1, cell_keep' hb h2.2.1, cell_keep' hb h2.2.2⟩, h3.keep hb, h4.keep hb⟩
def CellsC (w : World) (b o : Nat) (m : Tr.C) (x y : Value) : Prop :=
  w.cell? ⟨b, o, none⟩ = some (.string m.name) ∧ w.cell? ⟨b, o + 1, none⟩ = some (.bool m.actor) ∧ w.cell? ⟨b, o + 2, none⟩ = some x ∧ w.cell? ⟨b, o + 3, none⟩ = some y
def SlC (w : World) (v : Value) (l : List Tr.C) : Prop :=
  ∃ p c, v = .slice p l.length c ∧ l.length ≤ maxLen ∧ (l ≠ [] → l.length ≤ c ∧ c ≤ maxLen) ∧ ∀ j m, l[j]? = some m → m.name.size ≤ maxLen ∧ ∃ b o x y, p = some ⟨b, o, none⟩ ∧ b < w.heap.size ∧ CellsC w b (o + j * 4) m x y ∧ SlStr w x m.fields ∧ SlM w y m.methods
theorem SlC.keep {w w' : World} {v : Value} {l : List Tr.C} (h : SlC w v l) (hb : Below w.heap.size w w') : SlC w' v l := by
  obtain ⟨p, c, e, hl, hn, hx⟩ := h
  refine ⟨p, c, e, hl, hn, fun j s hj => ?_⟩
  obtain ⟨hs, b, o, x, y, e2, h1, h2, h3, h4⟩ := hx j s hj
  exact ⟨hs, b, o, x, y, e2, Nat.lt_of_lt_of_le h1 hb.size, ⟨cell_keep' hb h2.1, cell_keep' hb h2.2.1, cell_keep' hb h2.2.2.1, cell_keep' hb h2.2.2.2⟩, h3.keep hb, h4.keep hb⟩
end Go.Proofs.YtdckddkalgnlpaaGreatDoor
namespace Go.Proofs.YtdckddkalgnlpaaGreatDoor
namespace Lex
abbrev Bytes := List UInt8
def letter (c : UInt8) : Bool := decide (97 ≤ c.toNat ∧ c.toNat ≤ 122 ∨ 65 ≤ c.toNat ∧ c.toNat ≤ 90)
def digit (c : UInt8) : Bool := decide (48 ≤ c.toNat ∧ c.toNat ≤ 57)
/-- a letter, a digit or an underscore -/
def wordc (c : UInt8) : Bool := letter c || digit c || decide (c.toNat = 95)
/-- a letter or an underscore -/
def tailc (c : UInt8) : Bool := letter c || decide (c.toNat = 95)
def space (c : UInt8) : Bool := decide (c.toNat = 32 ∨ c.toNat = 9 ∨ c.toNat = 10 ∨ c.toNat = 13)
/-- The text without the spaces and comments at its beginning (true: inside a comment). -/
def skip : Bool → Bytes → Bytes
  | _, [] => []
  | true, c :: r => if c.toNat = 10 then skip false r else skip true r
  | false, c :: r => if space c then skip false r else if c.toNat = 35 then skip true r else c :: r
structure Tok where
  kind : Nat
  text : Bytes
  val : Nat
  pos : Nat
  deriving DecidableEq, Inhabited
def keywords : List Bytes := [[97, 99, 116, 111, 114], [97, 110, 100], [97, 116], [98, 121], [101, 108, 115, 101], [103, 101, 116], [105, 102], [108, 101, 116], [109, 111, 118, 101], [110, 101, 119], [110, 105, 108], [110, 111, 116], [111, 110], [111, 114], [112, 114, 105, 110, 116], [114, 101, 99, 111, 114, 100], [114, 101, 116, 117, 114, 110], [115, 101, 110, 100], [116, 104, 105, 115], [116, 111], [118, 97, 114], [119, 97, 116, 99, 104], [119, 101, 97, 107], [119, 104, 105, 108, 101]]
def symbols : List Bytes := [[33, 61], [37], [40], [41], [42], [43], [44], [45], [46], [47], [59], [60], [60, 61], [61], [61, 61], [62], [62, 61], [123], [125]]
/-- The value of digits. -/
def value (l : Bytes) : Nat := l.foldl (fun n c => 10 * n + (c.toNat - 48)) 0
/-- The errors: 2 (range), 3 (syntax), 8 (too large). -/
inductive Got where
  | bad (e : Nat)
  | tok (kind : Nat) (text : Bytes) (val : Nat)
  deriving DecidableEq, Inhabited
def nameAt (l : Bytes) : Got :=
  let t := l.takeWhile wordc
  if 31 < t.length then .bad 8
  else if keywords.contains t then .tok 4 t 0
  else if (t.headD 0).toNat ≤ 90 then .tok 3 t 0
  else .tok 2 t 0
def numberAt (l : Bytes) : Got :=
  let t := l.takeWhile digit
  if (l.drop t.length).head?.any tailc then .bad 3
  else if 1 < t.length ∧ t.headD 0 = 48 then .bad 3
  else if 2305843009213693951 < value t then .bad 2
  else .tok 1 t (value t)
def symbolAt (l : Bytes) : Got :=
  if 2 ≤ l.length ∧ symbols.contains (l.take 2) = true then .tok 5 (l.take 2) 0
  else if symbols.contains (l.take 1) then .tok 5 (l.take 1) 0
  else .bad 3
/-- The token at the head of a text that is not empty. -/
def next (l : Bytes) : Got :=
  if letter (l.headD 0) then nameAt l else if digit (l.headD 0) then numberAt l else symbolAt l
inductive Res where
  | bad (at_ : Nat) (e : Nat)
  | toks (l : List Tok)
  deriving DecidableEq, Inhabited
/-- The tokens of a text whose spaces in front are gone, with offsets from pos on; n is the length of the whole source. Fuel: at least the text's length. -/
def scanF (n : Nat) : Nat → Bytes → Res
  | _, [] => .toks [⟨0, [], 0, n⟩]
  | 0, _ :: _ => .bad 0 0
  | f + 1, c :: r =>
    match next (c :: r) with
    | .bad e => .bad (n - (c :: r).length) e
    | .tok k t v =>
      match scanF n f (skip false ((c :: r).drop t.length)) with
      | .bad a e => .bad a e
      | .toks l => .toks (⟨k, t, v, n - (c :: r).length⟩ :: l)
/-- What Scan returns. -/
def scan (s : Bytes) : Res :=
  if 16384 < s.length then .bad 0 8 else scanF s.length (s.length) (skip false s)
theorem skip_le : ∀ (b : Bool) (l : Bytes), (skip b l).length ≤ l.length
  | b, [] => by cases b <;> simp [skip]
  | true, c :: r => by
    have h1 := skip_le false r
    have h2 := skip_le true r
    simp only [skip, List.length_cons]
    split <;> omega
  | false, c :: r => by
    have h1 := skip_le false r
    have h2 := skip_le true r
    simp only [skip, List.length_cons]
    split
    · omega
    · split
      · omega
      · simp
/-- What is left is an end of the text. -/
theorem skip_drop : ∀ (b : Bool) (l : Bytes), skip b l = l.drop (l.length - (skip b l).length)
  | b, [] => by cases b <;> simp [skip]
  | true, c :: r => by
    have h1 := skip_drop false r
    have h2 := skip_drop true r
    have l1 := skip_le false r
    have l2 := skip_le true r
    simp only [skip, List.length_cons]
    split
    · rw [show r.length + 1 - (skip false r).length = (r.length - (skip false r).length) + 1 by omega, List.drop_succ_cons]
      exact h1
    · rw [show r.length + 1 - (skip true r).length = (r.length - (skip true r).length) + 1 by omega, List.drop_succ_cons]
      exact h2
  | false, c :: r => by
    have h1 := skip_drop false r
    have h2 := skip_drop true r
    have l1 := skip_le false r
    have l2 := skip_le true r
    simp only [skip, List.length_cons]
    split
    · rw [show r.length + 1 - (skip false r).length = (r.length - (skip false r).length) + 1 by omega, List.drop_succ_cons]
      exact h1
    · split
      · rw [show r.length + 1 - (skip true r).length = (r.length - (skip true r).length) + 1 by omega, List.drop_succ_cons]
        exact h2
      · simp
end Lex
end Go.Proofs.YtdckddkalgnlpaaGreatDoor
namespace Go.Proofs.YtdckddkalgnlpaaGreatDoor
namespace Tr
/-- a name whose first letter lies between lo and hi -/
def nameL (lo hi : Nat) (l : List UInt8) : Bool :=
  decide (l ≠ [] ∧ l.length ≤ 31 ∧ lo ≤ (l.headD 0).toNat ∧ (l.headD 0).toNat ≤ hi) && !Lex.keywords.contains l && l.all Lex.wordc
def varL (l : List UInt8) : Bool := nameL 97 122 l
def clsL (l : List UInt8) : Bool := nameL 65 90 l
def varB (s : ByteArray) : Bool := varL s.data.toList
def clsB (s : ByteArray) : Bool := clsL s.data.toList
/-- an expression's own fields, n the number of its arguments -/
def okE (k o i : Int) (nm : ByteArray) (a : Bool) (n : Nat) : Bool :=
  !(decide (k ≠ 0 ∧ i ≠ 0) || decide (k ≠ 10 ∧ o ≠ 0) || (decide (k ≠ 5) && a)) &&
  (if k = 0 then decide (n = 0 ∧ nm.size = 0 ∧ 0 ≤ i ∧ i ≤ 2305843009213693951)
   else if k = 1 then decide (n = 0 ∧ nm.size = 0)
   else if k = 2 then decide (n = 0 ∧ nm.size = 0)
   else if k = 3 then decide (n = 0) && varB nm
   else if k = 4 then decide (n = 1) && varB nm
   else if k = 5 then clsB nm && (!a || decide (0 < n))
   else if k = 6 then decide (n = 1 ∧ nm.size = 0)
   else if k = 7 then decide (n = 1 ∧ nm.size = 0)
   else if k = 8 then decide (n = 1 ∧ nm.size = 0)
   else if k = 9 then decide (n = 1 ∧ nm.size = 0)
   else if k = 10 then decide (n = 2 ∧ nm.size = 0 ∧ 0 ≤ o ∧ o ≤ 12)
   else false)
mutual
def validE : E → Bool
  | .mk k o i nm a l => validEs l && okE k o i nm a l.length
def validEs : List E → Bool
  | [] => true
  | e :: r => validE e && validEs r
end
/-- a statement's own fields: the number of its expressions, of its body's and its else part's statements -/
def okS (k : Int) (nm : ByteArray) (n nb ne : Nat) : Bool :=
  if k = 0 then decide (n = 1 ∧ nb = 0 ∧ ne = 0) && varB nm
  else if k = 1 then decide (n = 1 ∧ nb = 0 ∧ ne = 0) && varB nm
  else if k = 2 then decide (n = 2 ∧ nb = 0 ∧ ne = 0) && varB nm
  else if k = 3 then decide (n = 1 ∧ nm.size = 0)
  else if k = 4 then decide (n = 1 ∧ nm.size = 0 ∧ ne = 0)
  else if k = 5 then decide (1 ≤ n ∧ nb = 0 ∧ ne = 0) && varB nm
  else if k = 6 then decide (n = 1 ∧ nm.size = 0 ∧ nb = 0 ∧ ne = 0)
  else if k = 7 then decide (n = 2 ∧ nm.size = 0 ∧ nb = 0 ∧ ne = 0)
  else if k = 8 then decide (n = 2 ∧ nb = 0 ∧ ne = 0) && varB nm
  else if k = 9 then decide (n = 0 ∧ nm.size = 0 ∧ nb = 0 ∧ ne = 0)
  else false
mutual
def validS : S → Bool
  | .mk k nm x b l => validEs x && okS k nm x.length b.length l.length && validSs b && validSs l
def validSs : List S → Bool
  | [] => true
  | s :: r => validS s && validSs r
end
def validM (m : M) : Bool := varB m.name && m.params.all varB && validSs m.body
def validC (c : C) : Bool := clsB c.name && c.fields.all varB && (c.actor || decide (c.methods.length = 0)) && c.methods.all validM
def validP (l : List C) : Bool := l.all validC
theorem validEs_all : ∀ l : List E, validEs l = l.all validE
  | [] => rfl
  | e :: r => by rw [validEs, validEs_all r]; rfl
theorem validSs_all : ∀ l : List S, validSs l = l.all validS
  | [] => rfl
  | e :: r => by rw [validSs, validSs_all r]; rfl
end Tr
end Go.Proofs.YtdckddkalgnlpaaGreatDoor
namespace Go.Proofs.YtdckddkalgnlpaaGreatDoor
open Go.RowKit
/-- what is left of s from place k on -/
def rest (s : ByteArray) (k : Nat) : List UInt8 := s.data.toList.drop k
theorem rest_len (s : ByteArray) (k : Nat) : (rest s k).length = s.size - k := by unfold rest; rw [List.length_drop, ← Lib.size_eq]
theorem rest_cons (s : ByteArray) (k : Nat) (h : k < s.size) : rest s k = s[k] :: rest s (k + 1) := by
  unfold rest
  rw [List.drop_eq_getElem_cons (by rw [← Lib.size_eq]; exact h)]
  rfl
theorem space_iff (c : UInt8) : Lex.space c = true ↔ (c.toNat = 32 ∨ c.toNat = 9 ∨ c.toNat = 10 ∨ c.toNat = 13) := by unfold Lex.space; exact decide_eq_true_iff
theorem skip_t (c : UInt8) (r : List UInt8) : Lex.skip true (c :: r) = if c.toNat = 10 then Lex.skip false r else Lex.skip true r := rfl
theorem skip_f (c : UInt8) (r : List UInt8) : Lex.skip false (c :: r) = if Lex.space c then Lex.skip false r else if c.toNat = 35 then Lex.skip true r else c :: r := rfl
theorem beq_no (c : UInt8) (m : Int) (h : ¬ (c.toNat : Int) = m) : ((c.toNat : Int) == m) = false := by rw [beq_eq_false_iff_ne]; exact h
end Go.Proofs.YtdckddkalgnlpaaGreatDoor
namespace Go.Proofs.YtdckddkalgnlpaaGreatDoor
open Go.RowKit
theorem take_snoc (s : ByteArray) (k : Nat) (h : k < s.size) : s.data.toList.take (k + 1) = s.data.toList.take k ++ [s[k]] := by
  rw [List.take_succ_eq_append_getElem (by simpa using h)]; rfl
theorem head_get (s : ByteArray) (h : 0 < s.size) : s.data.toList.headD 0 = s[0] := by
  have := rest_cons s 0 h
  unfold rest at this
  rw [List.drop_zero] at this
  rw [this]; rfl
end Go.Proofs.YtdckddkalgnlpaaGreatDoor
namespace Go.Proofs.YtdckddkalgnlpaaGreatDoor
open Go.RowKit
/-- a token as a value -/
def tokV (k : Int) (t : List UInt8) (v p : Int) : Value := .agg #[.int .i64 k, .string ⟨t.toArray⟩, .int .i64 v, .int .i64 p]
/-- what next returns -/
def gotV (p : Int) : Lex.Got → Value
  | .bad e => .tuple #[tokV 0 [] 0 0, .int .i64 e]
  | .tok k t v => .tuple #[tokV k t v p, .int .i64 0]
theorem take_takeWhile {α : Type} (p : α → Bool) : ∀ l : List α, l.take (l.takeWhile p).length = l.takeWhile p
  | [] => rfl
  | a :: l => by
    by_cases h : p a
    · simp [h, take_takeWhile p l]
    · simp [h]
def kwz (j : Nat) : ByteArray := ⟨(Lex.keywords.getD j []).toArray⟩
theorem nameAt_of {l T : List UInt8} (h : l.takeWhile Lex.wordc = T) : Lex.nameAt l = if 31 < T.length then .bad 8 else if Lex.keywords.contains T then .tok 4 T 0 else if (T.headD 0).toNat ≤ 90 then .tok 3 T 0 else .tok 2 T 0 := by
  unfold Lex.nameAt; rw [h]
theorem nameAt_big {l T : List UInt8} (h : l.takeWhile Lex.wordc = T) (h1 : 31 < T.length) : Lex.nameAt l = .bad 8 := by rw [nameAt_of h, if_pos h1]
end Go.Proofs.YtdckddkalgnlpaaGreatDoor
namespace Go.Proofs.YtdckddkalgnlpaaGreatDoor
open Go.RowKit
theorem numberAt_tail {l T : List UInt8} (h : l.takeWhile Lex.digit = T) (h1 : (l.drop T.length).head?.any Lex.tailc = true) : Lex.numberAt l = .bad 3 := by
  unfold Lex.numberAt; rw [h]; rw [if_pos h1]
theorem numberAt_of {l T : List UInt8} (h : l.takeWhile Lex.digit = T) (h1 : (l.drop T.length).head?.any Lex.tailc = false) :
    Lex.numberAt l = if 1 < T.length ∧ T.headD 0 = 48 then .bad 3 else if 2305843009213693951 < Lex.value T then .bad 2 else .tok 1 T (Lex.value T) := by
  unfold Lex.numberAt; rw [h]; simp only [h1, Bool.false_eq_true, if_false]
end Go.Proofs.YtdckddkalgnlpaaGreatDoor
namespace Go.Proofs.YtdckddkalgnlpaaGreatDoor
open Go.RowKit
def syz (j : Nat) : ByteArray := ⟨(Lex.symbols.getD j []).toArray⟩
theorem symbolAt_two {l : List UInt8} (h : 2 ≤ l.length) (h1 : Lex.symbols.contains (l.take 2) = true) : Lex.symbolAt l = .tok 5 (l.take 2) 0 := by
  unfold Lex.symbolAt; rw [if_pos ⟨h, h1⟩]
theorem symbolAt_one {l : List UInt8} (h : ¬ (2 ≤ l.length ∧ Lex.symbols.contains (l.take 2) = true)) (h1 : Lex.symbols.contains (l.take 1) = true) : Lex.symbolAt l = .tok 5 (l.take 1) 0 := by
  unfold Lex.symbolAt; rw [if_neg h, h1]; rfl
theorem symbolAt_no {l : List UInt8} (h : ¬ (2 ≤ l.length ∧ Lex.symbols.contains (l.take 2) = true)) (h1 : Lex.symbols.contains (l.take 1) = false) : Lex.symbolAt l = .bad 3 := by
  unfold Lex.symbolAt; rw [if_neg h, h1]; rfl
end Go.Proofs.YtdckddkalgnlpaaGreatDoor
namespace Go.Proofs.YtdckddkalgnlpaaGreatDoor
open Go.RowKit
/-- the four cells of each token -/
def ToksAt (w : World) (b : Nat) (ts : List Lex.Tok) : Prop :=
  ∀ (j : Nat) (t : Lex.Tok), ts[j]? = some t → w.cell? ⟨b, j * 4, none⟩ = some (.int .i64 t.kind) ∧ w.cell? ⟨b, j * 4 + 1, none⟩ = some (.string ⟨t.text.toArray⟩) ∧
    w.cell? ⟨b, j * 4 + 2, none⟩ = some (.int .i64 t.val) ∧ w.cell? ⟨b, j * 4 + 3, none⟩ = some (.int .i64 t.pos)
end Go.Proofs.YtdckddkalgnlpaaGreatDoor
namespace Go.Proofs.YtdckddkalgnlpaaGreatDoor
namespace Lex
theorem takeWhile_take {α : Type} (p : α → Bool) : ∀ l : List α, l.takeWhile p = l.take (l.takeWhile p).length
  | [] => rfl
  | a :: l => by
    by_cases h : p a
    · simp [h]; exact takeWhile_take p l
    · simp [h]
theorem takeWhile_le {α : Type} (p : α → Bool) (l : List α) : (l.takeWhile p).length ≤ l.length := (List.takeWhile_sublist p).length_le
theorem takeWhile_pos {α : Type} (p : α → Bool) (a : α) (l : List α) (h : p a = true) : 1 ≤ ((a :: l).takeWhile p).length := by
  rw [List.takeWhile_cons, if_pos h]; simp
/-- The token's text stands at the head. -/
theorem next_text {c : UInt8} {r : Bytes} {k : Nat} {t : Bytes} {v : Nat} (h : next (c :: r) = .tok k t v) : t = (c :: r).take t.length ∧ 1 ≤ t.length ∧ t.length ≤ (c :: r).length := by
  unfold next at h
  rw [List.headD_cons] at h
  by_cases hl : letter c = true
  · rw [if_pos hl] at h
    unfold nameAt at h
    have h1 := takeWhile_take wordc (c :: r)
    have h2 := takeWhile_le wordc (c :: r)
    have h3 := takeWhile_pos wordc c r (by unfold wordc; rw [hl]; rfl)
    generalize (c :: r).takeWhile wordc = T at h h1 h2 h3
    simp only at h
    split at h
    · cases h
    · split at h
      · cases h; exact ⟨h1, h3, h2⟩
      · split at h <;> (cases h; exact ⟨h1, h3, h2⟩)
  · rw [if_neg hl] at h
    by_cases hl : digit c = true
    · rw [if_pos hl] at h
      unfold numberAt at h
      have h1 := takeWhile_take digit (c :: r)
      have h2 := takeWhile_le digit (c :: r)
      have h3 := takeWhile_pos digit c r hl
      generalize (c :: r).takeWhile digit = T at h h1 h2 h3
      simp only at h
      split at h
      · cases h
      · split at h
        · cases h
        · split at h
          · cases h
          · cases h; exact ⟨h1, h3, h2⟩
    · rw [if_neg hl] at h
      unfold symbolAt at h
      split at h
      · rename_i hl
        cases h
        have e : ((c :: r).take 2).length = 2 := by rw [List.length_take]; omega
        rw [e]; exact ⟨rfl, by omega, hl.1⟩
      · split at h
        · cases h
          have e : ((c :: r).take 1).length = 1 := by rw [List.length_take]; simp
          rw [e]; exact ⟨rfl, by omega, by simp⟩
        · cases h
/-- An error is no 0. -/
theorem next_bad {l : Bytes} {e : Nat} (h : next l = .bad e) : 0 < e := by
  unfold next at h
  by_cases hl : letter (l.headD 0) = true
  · rw [if_pos hl] at h
    unfold nameAt at h
    simp only at h
    split at h
    · cases h; omega
    · split at h
      · cases h
      · split at h <;> cases h
  · rw [if_neg hl] at h
    by_cases hl : digit (l.headD 0) = true
    · rw [if_pos hl] at h
      unfold numberAt at h
      simp only at h
      split at h
      · cases h; omega
      · split at h
        · cases h; omega
        · split at h
          · cases h; omega
          · cases h
    · rw [if_neg hl] at h
      unfold symbolAt at h
      split at h
      · cases h
      · split at h
        · cases h
        · cases h; omega
/-- tokens ahead of a result -/
def pre (ts : List Tok) : Res → Res
  | .bad a e => .bad a e
  | .toks l => .toks (ts ++ l)
theorem pre_nil (r : Res) : pre [] r = r := by cases r <;> rfl
theorem scanF_nil (n f : Nat) : scanF n f [] = .toks [⟨0, [], 0, n⟩] := by cases f <;> rfl
theorem scanF_bad {n f : Nat} {c : UInt8} {r : Bytes} {e : Nat} (h : next (c :: r) = .bad e) : scanF n (f + 1) (c :: r) = .bad (n - (c :: r).length) e := by
  simp only [scanF, h]
theorem scanF_tok {n f : Nat} {c : UInt8} {r : Bytes} {k : Nat} {t : Bytes} {v : Nat} (h : next (c :: r) = .tok k t v) (ts : List Tok) :
    pre ts (scanF n (f + 1) (c :: r)) = pre (ts ++ [⟨k, t, v, n - (c :: r).length⟩]) (scanF n f (skip false ((c :: r).drop t.length))) := by
  simp only [scanF, h]
  cases scanF n f (skip false ((c :: r).drop t.length)) <;> simp [pre]
end Lex
end Go.Proofs.YtdckddkalgnlpaaGreatDoor
namespace Go.Proofs.YtdckddkalgnlpaaGreatDoor
open Go.RowKit
def tokCells (t : Lex.Tok) : List Value := [.int .i64 (t.kind : Nat), .string ⟨t.text.toArray⟩, .int .i64 (t.val : Nat), .int .i64 (t.pos : Nat)]
def toksCells (ts : List Lex.Tok) : List Value := ts.flatMap tokCells
/-- what Scan returns -/
def ScanPost (s : ByteArray) (w : World) (e : Ending) (w' : World) : Prop :=
  (∃ a er : Nat, Lex.scan s.data.toList = .bad a er ∧ e = .returned (.tuple #[.slice none 0 0, .int .i64 a, .int .i64 er]) ∧ Below w.heap.size w w') ∨
  (∃ (ts : List Lex.Tok) (v : Value), Lex.scan s.data.toList = .toks ts ∧ e = .returned (.tuple #[v, .int .i64 0, .int .i64 0]) ∧ w'.ownsRow w.heap.size 59 4 v ts.length (toksCells ts) ∧ Below w.heap.size w w')
theorem tokInfo : (Tryz.prog.info? 59).map (fun i => (i.zero, i.size, i.bytes)) = some (some (.agg #[.int .i64 0, .string ⟨#[]⟩, .int .i64 0, .int .i64 0]), 4, 40) := by kernel_rfl
theorem toksCells_snoc (ts : List Lex.Tok) (t : Lex.Tok) : toksCells (ts ++ [t]) = toksCells ts ++ tokCells t := by simp [toksCells]
theorem news_cells {W : World} {h0 : Array Obj} {cs : Array Value} {t : TypeId} {b : Nat} (hW : W.heap = h0.push (.cells cs t)) (hb : b = h0.size) (j : Nat) (u : Value) (h : cs.toList[j]? = some u) :
    W.cell? ((⟨b, 0, none⟩ : Addr).add j) = some u := by
  have hadd : (⟨b, 0, none⟩ : Addr).add j = ⟨b, j, none⟩ := by unfold Addr.add; split <;> simp_all
  rw [hadd]
  unfold World.cell?
  simp [hW, hb]
  simpa using h
theorem below_grown {w w' : World} (h : Below w.heap.size w w') : w.grownBy w' none := ⟨h.os, h.tape, h.output, h.size, fun k hk _ => h.block k hk⟩
theorem own_below {w w' : World} {base : Nat} {e : TypeId} {size : Nat} {v : Value} {n : Nat} {xs : List Value} (h : w.ownsRow base e size v n xs) (hb : Below w.heap.size w w') : w'.ownsRow base e size v n xs :=
  h.kept (below_grown hb) (by cases v.ownBlock <;> simp)
theorem rest_skip (s : ByteArray) (k : Nat) (hk : k ≤ s.size) : rest s (s.size - (Lex.skip false (rest s k)).length) = Lex.skip false (rest s k) := by
  have h := Lex.skip_drop false (rest s k)
  have hle := Lex.skip_le false (rest s k)
  rw [rest_len] at h hle
  conv => rhs; rw [h]
  unfold rest
  rw [List.drop_drop]
  congr 1
  unfold rest at hle
  omega
end Go.Proofs.YtdckddkalgnlpaaGreatDoor
