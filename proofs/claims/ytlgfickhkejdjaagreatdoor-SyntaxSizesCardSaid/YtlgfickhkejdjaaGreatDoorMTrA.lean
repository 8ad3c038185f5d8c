/-
  Several texts in one: Tree, TrSpec, TrFew, TrFit, TrForm, TrFew2, TrTok, TreeOpen, TreeCard.
-/
import Derived.Below
import Derived.Deep.Slices
import Derived.Deep.Fields
import Derived.ChangeSame
import Derived.Test.YtlgfickhkejdjaaGreatDoorMLexA
import Derived.Test.YtlgfickhkejdjaaGreatDoorRows
import Derived.WalkKit
import Derived.WalkLawsBesides
import Derived.WalkSpells
import Derived.LoopTactic
import Derived.Lib.Hide
import Derived.Carry
import Derived.WideKeyArgs
namespace Go.Proofs.YtlgfickhkejdjaaGreatDoor
open Go.RowKit

namespace Tr
inductive E where
  | mk (kind op int : Int) (name : ByteArray) (at_ : Bool) (args : List E)
def E.kind : E → Int | .mk k _ _ _ _ _ => k
def E.op : E → Int | .mk _ o _ _ _ _ => o
def E.int : E → Int | .mk _ _ i _ _ _ => i
def E.name : E → ByteArray | .mk _ _ _ n _ _ => n
def E.at_ : E → Bool | .mk _ _ _ _ a _ => a
def E.args : E → List E | .mk _ _ _ _ _ l => l
inductive S where
  | mk (kind : Int) (name : ByteArray) (exprs : List E) (body els : List S)
def S.kind : S → Int | .mk k _ _ _ _ => k
def S.name : S → ByteArray | .mk _ n _ _ _ => n
def S.exprs : S → List E | .mk _ _ x _ _ => x
def S.body : S → List S | .mk _ _ _ b _ => b
def S.els : S → List S | .mk _ _ _ _ b => b
structure M where
  name : ByteArray
  params : List ByteArray
  body : List S
structure C where
  name : ByteArray
  actor : Bool
  fields : List ByteArray
  methods : List M
def I64 (n : Int) : Prop := -9223372036854775808 ≤ n ∧ n ≤ 9223372036854775807
/-- how deep a tree is -/
def E.deep : E → Nat
  | .mk _ _ _ _ _ args => 1 + deeps args
where deeps : List E → Nat
  | [] => 0
  | e :: r => max (E.deep e) (deeps r)
def S.deep : S → Nat
  | .mk _ _ _ body els => 1 + max (deeps body) (deeps els)
where deeps : List S → Nat
  | [] => 0
  | e :: r => max (S.deep e) (deeps r)
theorem E.deeps_get : ∀ (l : List E) (j : Nat) (e : E), l[j]? = some e → E.deep e ≤ E.deep.deeps l
  | [], j, e, h => by simp at h
  | x :: r, 0, e, h => by cases h; unfold E.deep.deeps; exact Nat.le_max_left _ _
  | x :: r, j + 1, e, h => by
    unfold E.deep.deeps
    exact Nat.le_trans (E.deeps_get r j e (by simpa using h)) (Nat.le_max_right _ _)
theorem S.deeps_get : ∀ (l : List S) (j : Nat) (e : S), l[j]? = some e → S.deep e ≤ S.deep.deeps l
  | [], j, e, h => by simp at h
  | x :: r, 0, e, h => by cases h; unfold S.deep.deeps; exact Nat.le_max_left _ _
  | x :: r, j + 1, e, h => by
    unfold S.deep.deeps
    exact Nat.le_trans (S.deeps_get r j e (by simpa using h)) (Nat.le_max_right _ _)
theorem E.deep_args {e : E} {n : Nat} (h : e.deep ≤ n + 1) {j : Nat} {x : E} (hj : e.args[j]? = some x) : x.deep ≤ n := by
  cases e with
  | mk k o i nm a l =>
    unfold E.deep at h
    have := E.deeps_get l j x hj
    omega
theorem S.deep_body {s : S} {n : Nat} (h : s.deep ≤ n + 1) : S.deep.deeps s.body ≤ n := by
  cases s with
  | mk k nm x b l =>
    unfold S.deep at h
    show S.deep.deeps b ≤ n
    have := Nat.le_max_left (S.deep.deeps b) (S.deep.deeps l)
    omega
theorem S.deep_els {s : S} {n : Nat} (h : s.deep ≤ n + 1) : S.deep.deeps s.els ≤ n := by
  cases s with
  | mk k nm x b l =>
    unfold S.deep at h
    show S.deep.deeps l ≤ n
    have := Nat.le_max_right (S.deep.deeps b) (S.deep.deeps l)
    omega
end Tr

/-- what an expression's own cells are, but for its arguments -/
structure BdE (e : Tr.E) : Prop where
  kind : Tr.I64 e.kind
  op : Tr.I64 e.op
  int : Tr.I64 e.int
  name : e.name.size ≤ maxLen
structure BdS (s : Tr.S) : Prop where
  kind : Tr.I64 s.kind
  name : s.name.size ≤ maxLen
/-- the six cells of an expression at offset o of block b -/
def CellsE (w : World) (b o : Nat) (e : Tr.E) (a : Value) : Prop :=
  w.cell? ⟨b, o, none⟩ = some (.int .i64 e.kind) ∧ w.cell? ⟨b, o + 1, none⟩ = some (.int .i64 e.op) ∧ w.cell? ⟨b, o + 2, none⟩ = some (.int .i64 e.int) ∧
  w.cell? ⟨b, o + 3, none⟩ = some (.string e.name) ∧ w.cell? ⟨b, o + 4, none⟩ = some (.bool e.at_) ∧ w.cell? ⟨b, o + 5, none⟩ = some a
def CellsS (w : World) (b o : Nat) (s : Tr.S) (x y z : Value) : Prop :=
  w.cell? ⟨b, o, none⟩ = some (.int .i64 s.kind) ∧ w.cell? ⟨b, o + 1, none⟩ = some (.string s.name) ∧
  w.cell? ⟨b, o + 2, none⟩ = some x ∧ w.cell? ⟨b, o + 3, none⟩ = some y ∧ w.cell? ⟨b, o + 4, none⟩ = some z
/-- the slice value reads as the list of expressions -/
inductive SlE (w : World) : Value → List Tr.E → Prop
  | nil (p : Option Addr) (c : Nat) : SlE w (.slice p 0 c) []
  | row (b o c : Nat) (l : List Tr.E) (A : Nat → Value) (hn : l.length ≤ c) (hm : c ≤ maxLen) (hc : ∀ j e, l[j]? = some e → CellsE w b (o + j * 6) e (A j) ∧ BdE e)
      (ha : ∀ j e, l[j]? = some e → SlE w (A j) e.args) : SlE w (.slice (some ⟨b, o, none⟩) l.length c) l
inductive SlS (w : World) : Value → List Tr.S → Prop
  | nil (p : Option Addr) (c : Nat) : SlS w (.slice p 0 c) []
  | row (b o c : Nat) (l : List Tr.S) (X Y Z : Nat → Value) (hn : l.length ≤ c) (hm : c ≤ maxLen) (hc : ∀ j s, l[j]? = some s → CellsS w b (o + j * 5) s (X j) (Y j) (Z j) ∧ BdS s)
      (hx : ∀ j s, l[j]? = some s → SlE w (X j) s.exprs) (hy : ∀ j s, l[j]? = some s → SlS w (Y j) s.body) (hz : ∀ j s, l[j]? = some s → SlS w (Z j) s.els) : SlS w (.slice (some ⟨b, o, none⟩) l.length c) l

theorem cell_lt' {w : World} {b o : Nat} {v : Value} (h : w.cell? ⟨b, o, none⟩ = some v) : b < w.heap.size := by
  rcases Nat.lt_or_ge b w.heap.size with hlt | hge
  · exact hlt
  · unfold World.cell? at h
    rw [Array.getElem?_eq_none hge] at h
    cases h
theorem cell_keep' {w w' : World} {b o : Nat} {v : Value} (hb : Below w.heap.size w w') (h : w.cell? ⟨b, o, none⟩ = some v) : w'.cell? ⟨b, o, none⟩ = some v :=
  (hb.cell (cell_lt' h)).trans h
theorem CellsE.keep {w w' : World} {b o : Nat} {e : Tr.E} {a : Value} (h : CellsE w b o e a) (hb : Below w.heap.size w w') : CellsE w' b o e a :=
  ⟨cell_keep' hb h.1, cell_keep' hb h.2.1, cell_keep' hb h.2.2.1, cell_keep' hb h.2.2.2.1, cell_keep' hb h.2.2.2.2.1, cell_keep' hb h.2.2.2.2.2⟩
theorem CellsS.keep {w w' : World} {b o : Nat} {e : Tr.S} {x y z : Value} (h : CellsS w b o e x y z) (hb : Below w.heap.size w w') : CellsS w' b o e x y z :=
  ⟨cell_keep' hb h.1, cell_keep' hb h.2.1, cell_keep' hb h.2.2.1, cell_keep' hb h.2.2.2.1, cell_keep' hb h.2.2.2.2⟩
theorem SlE.keep {w w' : World} {v : Value} {l : List Tr.E} (h : SlE w v l) (hb : Below w.heap.size w w') : SlE w' v l := by
  induction h with
  | nil p c => exact .nil p c
  | row b o c l A hn hm hc ha ih => exact .row b o c l A hn hm (fun j e hj => ⟨(hc j e hj).1.keep hb, (hc j e hj).2⟩) (fun j e hj => ih j e hj)
theorem SlS.keep {w w' : World} {v : Value} {l : List Tr.S} (h : SlS w v l) (hb : Below w.heap.size w w') : SlS w' v l := by
  induction h with
  | nil p c => exact .nil p c
  | row b o c l X Y Z hn hm hc hx hy hz ih1 ih2 => exact .row b o c l X Y Z hn hm (fun j e hj => ⟨(hc j e hj).1.keep hb, (hc j e hj).2⟩) (fun j e hj => (hx j e hj).keep hb) (fun j e hj => ih1 j e hj) (fun j e hj => ih2 j e hj)
theorem SlE.form {w : World} {v : Value} {l : List Tr.E} (h : SlE w v l) : ∃ p c, v = .slice p l.length c ∧ (l ≠ [] → l.length ≤ c ∧ c ≤ maxLen) := by
  cases h with
  | nil p c => exact ⟨p, c, rfl, fun h => absurd rfl h⟩
  | row b o c l A hn hm hc ha => exact ⟨_, c, rfl, fun _ => ⟨hn, hm⟩⟩
theorem SlS.form {w : World} {v : Value} {l : List Tr.S} (h : SlS w v l) : ∃ p c, v = .slice p l.length c ∧ (l ≠ [] → l.length ≤ c ∧ c ≤ maxLen) := by
  cases h with
  | nil p c => exact ⟨p, c, rfl, fun h => absurd rfl h⟩
  | row b o c l X Y Z hn hm hc hx hy hz => exact ⟨_, c, rfl, fun _ => ⟨hn, hm⟩⟩
theorem SlE.len {w : World} {v : Value} {l : List Tr.E} (h : SlE w v l) : l.length ≤ maxLen := by
  cases h with
  | nil p c => exact Nat.zero_le _
  | row b o c l A hn hm hc ha => omega
theorem SlS.len {w : World} {v : Value} {l : List Tr.S} (h : SlS w v l) : l.length ≤ maxLen := by
  cases h with
  | nil p c => exact Nat.zero_le _
  | row b o c l X Y Z hn hm hc hx hy hz => omega
/-- element j: where it lies, its cells, its arguments -/
theorem SlE.get {w : World} {p : Option Addr} {n c : Nat} {l : List Tr.E} (h : SlE w (.slice p n c) l) {j : Nat} {e : Tr.E} (hj : l[j]? = some e) :
    ∃ b o a, p = some ⟨b, o, none⟩ ∧ b < w.heap.size ∧ CellsE w b (o + j * 6) e a ∧ BdE e ∧ SlE w a e.args := by
  generalize hv : (Value.slice p n c) = v at h
  cases h with
  | nil p c => simp at hj
  | row b o c l A hn hm hc ha => cases hv; exact ⟨b, o, A j, rfl, cell_lt' (hc j e hj).1.1, (hc j e hj).1, (hc j e hj).2, ha j e hj⟩
theorem SlS.get {w : World} {p : Option Addr} {n c : Nat} {l : List Tr.S} (h : SlS w (.slice p n c) l) {j : Nat} {e : Tr.S} (hj : l[j]? = some e) :
    ∃ b o x y z, p = some ⟨b, o, none⟩ ∧ b < w.heap.size ∧ CellsS w b (o + j * 5) e x y z ∧ BdS e ∧ SlE w x e.exprs ∧ SlS w y e.body ∧ SlS w z e.els := by
  generalize hv : (Value.slice p n c) = v at h
  cases h with
  | nil p c => simp at hj
  | row b o c l X Y Z hn hm hc hx hy hz => cases hv; exact ⟨b, o, X j, Y j, Z j, rfl, cell_lt' (hc j e hj).1.1, (hc j e hj).1, (hc j e hj).2, hx j e hj, hy j e hj, hz j e hj⟩

/-- the slice value reads as a list of strings -/
def SlStr (w : World) (v : Value) (l : List ByteArray) : Prop :=
  ∃ p c, v = .slice p l.length c ∧ l.length ≤ maxLen ∧ (l ≠ [] → l.length ≤ c ∧ c ≤ maxLen) ∧ ∀ j s, l[j]? = some s → s.size ≤ maxLen ∧ ∃ b o, p = some ⟨b, o, none⟩ ∧ b < w.heap.size ∧ w.cell? ⟨b, o + j, none⟩ = some (.string s)
theorem SlStr.keep {w w' : World} {v : Value} {l : List ByteArray} (h : SlStr w v l) (hb : Below w.heap.size w w') : SlStr w' v l := by
  obtain ⟨p, c, e, hl, hn, hx⟩ := h
  refine ⟨p, c, e, hl, hn, fun j s hj => ?_⟩
  obtain ⟨hs, b, o, e2, h1, h2⟩ := hx j s hj
  exact ⟨hs, b, o, e2, Nat.lt_of_lt_of_le h1 hb.size, cell_keep' hb h2⟩
def CellsM (w : World) (b o : Nat) (m : Tr.M) (x y : Value) : Prop :=
  w.cell? ⟨b, o, none⟩ = some (.string m.name) ∧ w.cell? ⟨b, o + 1, none⟩ = some x ∧ w.cell? ⟨b, o + 2, none⟩ = some y
def SlM (w : World) (v : Value) (l : List Tr.M) : Prop :=
  ∃ p c, v = .slice p l.length c ∧ l.length ≤ maxLen ∧ (l ≠ [] → l.length ≤ c ∧ c ≤ maxLen) ∧ ∀ j m, l[j]? = some m → m.name.size ≤ maxLen ∧ ∃ b o x y, p = some ⟨b, o, none⟩ ∧ b < w.heap.size ∧ CellsM w b (o + j * 3) m x y ∧ SlStr w x m.params ∧ SlS w y m.body
theorem SlM.keep {w w' : World} {v : Value} {l : List Tr.M} (h : SlM w v l) (hb : Below w.heap.size w w') : SlM w' v l := by
  obtain ⟨p, c, e, hl, hn, hx⟩ := h
  refine ⟨p, c, e, hl, hn, fun j s hj => ?_⟩
  obtain ⟨hs, b, o, x, y, e2, h1, h2, h3, h4⟩ := hx j s hj
  exact ⟨hs, b, o, x, y, e2, Nat.lt_of_lt_of_le h1 hb.size, ⟨cell_keep' hb h2.1, cell_keep' hb h2.2.1, cell_keep' hb h2.2.2⟩, h3.keep hb, h4.keep hb⟩
def CellsC (w : World) (b o : Nat) (m : Tr.C) (x y : Value) : Prop :=
  w.cell? ⟨b, o, none⟩ = some (.string m.name) ∧ w.cell? ⟨b, o + 1, none⟩ = some (.bool m.actor) ∧ w.cell? ⟨b, o + 2, none⟩ = some x ∧ w.cell? ⟨b, o + 3, none⟩ = some y
def SlC (w : World) (v : Value) (l : List Tr.C) : Prop :=
  ∃ p c, v = .slice p l.length c ∧ l.length ≤ maxLen ∧ (l ≠ [] → l.length ≤ c ∧ c ≤ maxLen) ∧ ∀ j m, l[j]? = some m → m.name.size ≤ maxLen ∧ ∃ b o x y, p = some ⟨b, o, none⟩ ∧ b < w.heap.size ∧ CellsC w b (o + j * 4) m x y ∧ SlStr w x m.fields ∧ SlM w y m.methods
theorem SlC.keep {w w' : World} {v : Value} {l : List Tr.C} (h : SlC w v l) (hb : Below w.heap.size w w') : SlC w' v l := by
  obtain ⟨p, c, e, hl, hn, hx⟩ := h
  refine ⟨p, c, e, hl, hn, fun j s hj => ?_⟩
  obtain ⟨hs, b, o, x, y, e2, h1, h2, h3, h4⟩ := hx j s hj
  exact ⟨hs, b, o, x, y, e2, Nat.lt_of_lt_of_le h1 hb.size, ⟨cell_keep' hb h2.1, cell_keep' hb h2.2.1, cell_keep' hb h2.2.2.1, cell_keep' hb h2.2.2.2⟩, h3.keep hb, h4.keep hb⟩
end Go.Proofs.YtlgfickhkejdjaaGreatDoor

namespace Go.Proofs.YtlgfickhkejdjaaGreatDoor
namespace Tr

/-- a name whose first letter lies between lo and hi -/
def nameL (lo hi : Nat) (l : List UInt8) : Bool :=
  decide (l ≠ [] ∧ l.length ≤ 31 ∧ lo ≤ (l.headD 0).toNat ∧ (l.headD 0).toNat ≤ hi) && !Lex.keywords.contains l && l.all Lex.wordc
def varL (l : List UInt8) : Bool := nameL 97 122 l
def clsL (l : List UInt8) : Bool := nameL 65 90 l
def varB (s : ByteArray) : Bool := varL s.data.toList
def clsB (s : ByteArray) : Bool := clsL s.data.toList

/-- an expression's own fields, n the number of its arguments -/
def okE (k o i : Int) (nm : ByteArray) (a : Bool) (n : Nat) : Bool :=
  !(decide (k ≠ 0 ∧ i ≠ 0) || decide (k ≠ 10 ∧ o ≠ 0) || (decide (k ≠ 5) && a)) &&
  (if k = 0 then decide (n = 0 ∧ nm.size = 0 ∧ 0 ≤ i ∧ i ≤ 2305843009213693951)
   else if k = 1 then decide (n = 0 ∧ nm.size = 0)
   else if k = 2 then decide (n = 0 ∧ nm.size = 0)
   else if k = 3 then decide (n = 0) && varB nm
   else if k = 4 then decide (n = 1) && varB nm
   else if k = 5 then clsB nm && (!a || decide (0 < n))
   else if k = 6 then decide (n = 1 ∧ nm.size = 0)
   else if k = 7 then decide (n = 1 ∧ nm.size = 0)
   else if k = 8 then decide (n = 1 ∧ nm.size = 0)
   else if k = 9 then decide (n = 1 ∧ nm.size = 0)
   else if k = 10 then decide (n = 2 ∧ nm.size = 0 ∧ 0 ≤ o ∧ o ≤ 12)
   else false)
mutual
def validE : E → Bool
  | .mk k o i nm a l => validEs l && okE k o i nm a l.length
def validEs : List E → Bool
  | [] => true
  | e :: r => validE e && validEs r
end
/-- a statement's own fields: the number of its expressions, of its body's and its else part's statements -/
def okS (k : Int) (nm : ByteArray) (n nb ne : Nat) : Bool :=
  if k = 0 then decide (n = 1 ∧ nb = 0 ∧ ne = 0) && varB nm
  else if k = 1 then decide (n = 1 ∧ nb = 0 ∧ ne = 0) && varB nm
  else if k = 2 then decide (n = 2 ∧ nb = 0 ∧ ne = 0) && varB nm
  else if k = 3 then decide (n = 1 ∧ nm.size = 0)
  else if k = 4 then decide (n = 1 ∧ nm.size = 0 ∧ ne = 0)
  else if k = 5 then decide (1 ≤ n ∧ nb = 0 ∧ ne = 0) && varB nm
  else if k = 6 then decide (n = 1 ∧ nm.size = 0 ∧ nb = 0 ∧ ne = 0)
  else if k = 7 then decide (n = 2 ∧ nm.size = 0 ∧ nb = 0 ∧ ne = 0)
  else if k = 8 then decide (n = 2 ∧ nb = 0 ∧ ne = 0) && varB nm
  else if k = 9 then decide (n = 0 ∧ nm.size = 0 ∧ nb = 0 ∧ ne = 0)
  else false
mutual
def validS : S → Bool
  | .mk k nm x b l => validEs x && okS k nm x.length b.length l.length && validSs b && validSs l
def validSs : List S → Bool
  | [] => true
  | s :: r => validS s && validSs r
end
def validM (m : M) : Bool := varB m.name && m.params.all varB && validSs m.body
def validC (c : C) : Bool := clsB c.name && c.fields.all varB && (c.actor || decide (c.methods.length = 0)) && c.methods.all validM
def validP (l : List C) : Bool := l.all validC

theorem validEs_all : ∀ l : List E, validEs l = l.all validE
  | [] => rfl
  | e :: r => by rw [validEs, validEs_all r]; rfl
theorem validSs_all : ∀ l : List S, validSs l = l.all validS
  | [] => rfl
  | e :: r => by rw [validSs, validSs_all r]; rfl

mutual
/-- how many nodes are left after an expression, or a negative number; n ≥ 0 at the beginning -/
def leftE : E → Int → Int
  | .mk _ _ _ nm _ l, n => if 40 < nm.size then -1 else leftEs l (n - 1)
def leftEs : List E → Int → Int
  | [], n => n
  | e :: r, n => if n < 0 then n else leftEs r (leftE e n)
end
mutual
def leftS : S → Int → Int
  | .mk _ nm x b l, n => if 40 < nm.size then -1 else
    let n1 := leftEs x (n - 1)
    let n2 := if 0 ≤ n1 then leftSs b n1 else n1
    if 0 ≤ n2 then leftSs l n2 else n2
def leftSs : List S → Int → Int
  | [], n => n
  | s :: r, n => if n < 0 then n else leftSs r (leftS s n)
end
def shortL (l : List ByteArray) (n : Int) : Int := if l.any (fun s => decide (40 < s.size)) then -1 else n - l.length
def leftM (m : M) (n : Int) : Int := if 40 < m.name.size then -1 else
  let n1 := shortL m.params (n - 1)
  if 0 ≤ n1 then leftSs m.body n1 else n1
def leftMs : List M → Int → Int
  | [], n => n
  | m :: r, n => if n < 0 then n else leftMs r (leftM m n)
def leftC (c : C) (n : Int) : Int := if 40 < c.name.size then -1 else leftMs c.methods (shortL c.fields (n - 1))
def leftCs : List C → Int → Int
  | [], n => n
  | c :: r, n => if n < 0 then n else leftCs r (leftC c n)
def fewP (l : List C) (n : Int) : Bool := decide (0 ≤ leftCs l n)
def fewE (e : E) (n : Int) : Bool := decide (0 ≤ leftE e n)
end Tr
end Go.Proofs.YtlgfickhkejdjaaGreatDoor

namespace Go.Proofs.YtlgfickhkejdjaaGreatDoor
open Go.RowKit

def exprV (e : Tr.E) (a : Value) : Value := .agg #[.int .i64 e.kind, .int .i64 e.op, .int .i64 e.int, .string e.name, .bool e.at_, a]
theorem box_cell (w : World) (cs : Array Value) (t : TypeId) (i : Nat) (u : Value) (h : cs[i]? = some u) : (w.alloc (.cells cs t)).cell? ⟨w.heap.size, i, none⟩ = some u := by
  unfold World.cell? World.alloc
  simp
  simpa using h
theorem below_box (w : World) (o : Obj) : Below w.heap.size w (w.alloc o) := (Below.refl _ _).alloc (Nat.le_refl _) o
theorem below_next {wb w w' : World} (h : Below wb.heap.size wb w) (h2 : Below w.heap.size w w') : Below wb.heap.size wb w' := h.trans (h2.mono h.size)

namespace Tr
theorem E.deep_pos (e : E) : 1 ≤ e.deep := by cases e; unfold E.deep; omega
theorem leftEs_neg {n : Int} (h : n < 0) : ∀ l, leftEs l n = n
  | [] => rfl
  | e :: r => by rw [leftEs, if_pos h]
theorem leftEs_cons {n : Int} (h : 0 ≤ n) (e : E) (r : List E) : leftEs (e :: r) n = leftEs r (leftE e n) := by rw [leftEs, if_neg (by omega)]
mutual
theorem leftE_bd : ∀ (e : E) (n : Int), 0 ≤ n → -1 ≤ leftE e n ∧ leftE e n ≤ n
  | .mk k o i nm a l, n, h => by
    rw [leftE]
    split
    · omega
    · have := leftEs_bd l (n - 1) (by omega)
      omega
theorem leftEs_bd : ∀ (l : List E) (n : Int), -1 ≤ n → -1 ≤ leftEs l n ∧ leftEs l n ≤ n
  | [], n, h => by rw [leftEs]; omega
  | e :: r, n, h => by
    by_cases hn : n < 0
    · rw [leftEs_neg hn]; omega
    · rw [leftEs_cons (by omega)]
      have h1 := leftE_bd e n (by omega)
      have h2 := leftEs_bd r (leftE e n) h1.1
      omega
end
end Tr

set_option maxRecDepth 100000 in
set_option maxHeartbeats 1000000 in
theorem leftExpr_any : ∀ (d : Nat) (e : Tr.E) (a : Value) (n : Int) (w : World), e.deep ≤ d → BdE e → SlE w a e.args → 0 ≤ n → n ≤ 1000000 →
    Calls Tryz.prog 37 #[exprV e a, .int .i64 n] w fun r w' => r = .returned (.int .i64 (Tr.leftE e n)) ∧ Below w.heap.size w w' := by
  intro d
  induction d with
  | zero => intro e a n w hd; have := e.deep_pos; omega
  | succ d ih =>
    intro e a n w hd hB hS h0 hn
    obtain ⟨k, o, i, nm, at_, l⟩ := e
    have hsz : nm.size ≤ maxLen := hB.name
    have hS' : SlE w a l := hS
    obtain ⟨p, c, rfl, _⟩ := hS'.form
    have hll := hS'.len
    unfold maxLen at hsz hll
    obtain ⟨N, hN⟩ : ∃ N, l.length = N := ⟨_, rfl⟩
    rw [hN] at hS' hll ⊢
    have HS := Lib.hid (hS'.keep (below_box w (.cells #[.int .i64 k, .int .i64 o, .int .i64 i, .string nm, .bool at_, .slice p N c] 24)))
    have HN := Lib.hid hN
    have HD := Lib.hid hd
    have HIH := Lib.hid ih
    have HB := Lib.hid (below_box w (.cells #[.int .i64 k, .int .i64 o, .int .i64 i, .string nm, .bool at_, .slice p N c] 24))
    have b5 := box_cell w #[.int .i64 k, .int .i64 o, .int .i64 i, .string nm, .bool at_, .slice p N c] 24 5 _ rfl
    unfold exprV
    simp only [Tr.E.kind, Tr.E.op, Tr.E.int, Tr.E.name, Tr.E.at_]
    clear hS hS' hB hN hd ih
    by_cases h40 : 40 < nm.size
    · go_enter Tryz.func37, Tryz.ntmps37
      go_wp2
      go_ret
      exact ⟨by rw [Tr.leftE, if_pos h40]; rfl, HB.out⟩
    · obtain ⟨w1, hw1⟩ : ∃ w1, w1 = w.alloc (.cells #[.int .i64 k, .int .i64 o, .int .i64 i, .string nm, .bool at_, .slice p N c] 24) := ⟨_, rfl⟩
      rw [← hw1] at HS HB b5
      go_enter Tryz.func37, Tryz.ntmps37
      go_wp2
      rw [← hw1]
      clear hw1
      go_loopw [1, 5] (fun s1 s5 wr => ∃ (j : Nat) (m : Int), s5 = .int .i64 j ∧ j ≤ N ∧ s1 = .int .i64 m ∧ -1 ≤ m ∧ m ≤ 1000000 ∧ Tr.leftEs (l.drop j) m = Tr.leftEs l (n - 1) ∧ Below w1.heap.size w1 wr) (fun _ s5 _ => N - (intOf s5).toNat)
      case atStart => exact ⟨0, n - 1, rfl, Nat.zero_le _, rfl, by omega, by omega, rfl, Below.refl _ _⟩
      case round =>
        obtain ⟨j, m, rfl, hj, rfl, hm0, hm1, heq, hbr⟩ := hrel
        have HEQ := Lib.hid heq
        have HBR := Lib.hid hbr
        have c5 := cell_keep' hbr b5
        by_cases hlt : j < N
        · by_cases hm : 0 ≤ m
          · obtain ⟨x, hx⟩ : ∃ x, l[j]? = some x := ⟨_, List.getElem?_eq_getElem (by rw [HN.out]; exact hlt)⟩
            obtain ⟨b, oo, aa, rfl, hblt, hc, hbd, hsl⟩ := (HS.out.keep hbr).get hx
            obtain ⟨x0, x1, x2, x3, x4, x5⟩ := hc
            have hcall := HIH.out x aa m wr (Tr.E.deep_args HD.out (e := .mk k o i nm at_ l) hx) hbd hsl hm hm1
            unfold exprV at hcall
            have hbd2 := Tr.leftE_bd x m hm
            have hdrop : l.drop j = x :: l.drop (j + 1) := by rw [List.drop_eq_getElem_cons (by rw [HN.out]; exact hlt)]; congr 1; rw [List.getElem?_eq_getElem (by rw [HN.out]; exact hlt)] at hx; exact Option.some.inj hx
            rw [hdrop, Tr.leftEs_cons hm] at heq
            have HEQ2 := Lib.hid heq
            have HC := Lib.hid hcall
            obtain ⟨r, hr⟩ : ∃ r, Tr.leftE x m = r := ⟨_, rfl⟩
            rw [hr] at hbd2 HEQ2 HC
            clear heq hbr hcall hdrop hx hsl hbd hr HEQ
            go_wp2_with fail
            refine HC.out.mono ?_
            rintro e w2 ⟨rfl, hb2⟩
            go_wp2_with fail
            go_roundw
            case rel => exact ⟨j + 1, r, by go_num, by omega, rfl, by omega, by omega, HEQ2.out, below_next HBR.out hb2⟩
            case measure => simp [intOf]; omega
          · have hres : Tr.leftEs l (n - 1) = m := by rw [← heq, Tr.leftEs_neg (by omega)]
            have HR := Lib.hid hres
            clear heq hbr hres
            go_wp2
            go_ret
            exact ⟨by rw [Tr.leftE, if_neg h40, HR.out]; rfl, HB.out.trans (HBR.out.mono HB.out.size)⟩
        · have hres : Tr.leftEs l (n - 1) = m := by
            rw [← heq, List.drop_eq_nil_of_le (by rw [HN.out]; omega), Tr.leftEs]
          have HR := Lib.hid hres
          clear heq hbr hres
          go_wp2
          go_ret
          exact ⟨by rw [Tr.leftE, if_neg h40, HR.out]; rfl, HB.out.trans (HBR.out.mono HB.out.size)⟩

namespace Tr
theorem leftSs_neg {n : Int} (h : n < 0) : ∀ l, leftSs l n = n
  | [] => rfl
  | e :: r => by rw [leftSs, if_pos h]
theorem leftSs_cons {n : Int} (h : 0 ≤ n) (e : S) (r : List S) : leftSs (e :: r) n = leftSs r (leftS e n) := by rw [leftSs, if_neg (by omega)]
mutual
theorem leftS_bd : ∀ (e : S) (n : Int), 0 ≤ n → -1 ≤ leftS e n ∧ leftS e n ≤ n
  | .mk k nm x b l, n, h => by
    rw [leftS]
    split
    · omega
    · have h1 := leftEs_bd x (n - 1) (by omega)
      simp only []
      by_cases c1 : 0 ≤ leftEs x (n - 1)
      · rw [if_pos c1]
        have h2 := leftSs_bd b (leftEs x (n - 1)) h1.1
        by_cases c2 : 0 ≤ leftSs b (leftEs x (n - 1))
        · rw [if_pos c2]
          have h3 := leftSs_bd l _ h2.1
          omega
        · rw [if_neg c2]; omega
      · rw [if_neg c1, if_neg c1]; omega
theorem leftSs_bd : ∀ (l : List S) (n : Int), -1 ≤ n → -1 ≤ leftSs l n ∧ leftSs l n ≤ n
  | [], n, h => by rw [leftSs]; omega
  | e :: r, n, h => by
    by_cases hn : n < 0
    · rw [leftSs_neg hn]; omega
    · rw [leftSs_cons (by omega)]
      have h1 := leftS_bd e n (by omega)
      have h2 := leftSs_bd r (leftS e n) h1.1
      omega
end
theorem leftS_long {s : S} {n : Int} (h : 40 < s.name.size) : leftS s n = -1 := by
  cases s with
  | mk k nm x b l => rw [leftS]; exact if_pos h
theorem leftS_of {s : S} {n m2 m3 m4 : Int} (h : ¬ 40 < s.name.size) (h2 : leftEs s.exprs (n - 1) = m2) (h3 : (if 0 ≤ m2 then leftSs s.body m2 else m2) = m3) (h4 : (if 0 ≤ m3 then leftSs s.els m3 else m3) = m4) : leftS s n = m4 := by
  cases s with
  | mk k nm x b l =>
    have h' : ¬ 40 < nm.size := h
    rw [leftS, if_neg h']
    subst h2
    subst h3
    exact h4
theorem S.deep_pos (e : S) : 1 ≤ e.deep := by cases e; unfold S.deep; omega
theorem S.deep_in {l : List S} {d j : Nat} {x : S} (h : S.deep.deeps l ≤ d) (hj : l[j]? = some x) : 1 ≤ d ∧ S.deep.deeps x.body ≤ d - 1 ∧ S.deep.deeps x.els ≤ d - 1 := by
  have h1 := S.deeps_get l j x hj
  have h2 := x.deep_pos
  obtain ⟨m, hm⟩ : ∃ m, d = m + 1 := ⟨d - 1, by omega⟩
  subst hm
  exact ⟨by omega, S.deep_body (by omega), S.deep_els (by omega)⟩
theorem drop_get {α : Type} {l : List α} {j : Nat} {x : α} (h : l[j]? = some x) : l.drop j = x :: l.drop (j + 1) := by
  obtain ⟨hlt, rfl⟩ := List.getElem?_eq_some_iff.1 h
  exact List.drop_eq_getElem_cons hlt
end Tr

set_option maxRecDepth 100000 in
set_option maxHeartbeats 1000000 in
theorem short_any (v : Value) (l : List ByteArray) (n : Int) (w : World) (h : SlStr w v l) (h0 : -1 ≤ n) (hn : n ≤ 1000000) :
    Calls Tryz.prog 47 #[v, .int .i64 n] w fun r w' => r = .returned (.int .i64 (Tr.shortL l n)) ∧ w = w' := by
  obtain ⟨p, c, rfl, hl, _, hx⟩ := h
  have HX := Lib.hid hx
  unfold maxLen at hl
  obtain ⟨N, hN⟩ : ∃ N, l.length = N := ⟨_, rfl⟩
  rw [hN] at hl ⊢
  have HN := Lib.hid hN
  clear hx hN
  go_enter Tryz.func47, Tryz.ntmps47
  go_wp2
  go_loop [5] (fun s5 => ∃ j : Nat, s5 = .int .i64 j ∧ j ≤ N ∧ ∀ t s, t < j → l[t]? = some s → s.size ≤ 40) (fun s5 => N - (intOf s5).toNat)
  case atStart => exact ⟨0, rfl, Nat.zero_le _, fun t s ht => by omega⟩
  case round =>
    obtain ⟨j, rfl, hj, hall⟩ := hrel
    have HA := Lib.hid hall
    clear hall
    by_cases hlt : j < N
    · obtain ⟨x, hx⟩ : ∃ x, l[j]? = some x := ⟨_, List.getElem?_eq_getElem (by rw [HN.out]; exact hlt)⟩
      obtain ⟨hsz, b, o, rfl, hb, hc⟩ := HX.out j x hx
      have HXJ := Lib.hid hx
      unfold maxLen at hsz
      clear hx
      by_cases h40 : 40 < x.size
      · go_wp2
        go_ret
        refine ⟨?_, rfl⟩
        have : (l.any fun s => decide (40 < s.size)) = true := List.any_eq_true.2 ⟨x, List.mem_of_getElem? HXJ.out, decide_eq_true h40⟩
        rw [Tr.shortL, if_pos this]; rfl
      · go_wp2
        go_round
        case rel =>
          refine ⟨j + 1, by go_num, by omega, fun t s ht hts => ?_⟩
          by_cases e : t = j
          · subst e; rw [HXJ.out] at hts; cases hts; omega
          · exact HA.out t s (by omega) hts
        case measure => simp [intOf]; omega
    · obtain rfl : j = N := by omega
      go_wp2
      go_ret
      refine ⟨?_, rfl⟩
      have : (l.any fun s => decide (40 < s.size)) = false := by
        rw [Bool.eq_false_iff]
        intro h
        obtain ⟨s, hs, h2⟩ := List.any_eq_true.1 h
        obtain ⟨t, ht, e⟩ := List.mem_iff_getElem.1 hs
        have := HA.out t s (by rw [← HN.out]; exact ht) (by rw [List.getElem?_eq_getElem ht, e])
        simp at h2
        omega
      rw [Tr.shortL, if_neg (by rw [this]; simp), HN.out]; rfl

set_option maxRecDepth 100000 in
set_option maxHeartbeats 4000000 in
theorem leftStmts_any : ∀ (d : Nat) (l : List Tr.S) (v : Value) (n : Int) (w : World), Tr.S.deep.deeps l ≤ d → SlS w v l → 0 ≤ n → n ≤ 1000000 →
    Calls Tryz.prog 48 #[v, .int .i64 n] w fun r w' => r = .returned (.int .i64 (Tr.leftSs l n)) ∧ Below w.heap.size w w' := by
  intro d
  induction d using Nat.strongRecOn with
  | ind d ih =>
    intro l v n w hd hS h0 hn
    obtain ⟨p, c, rfl, _⟩ := hS.form
    have hll := hS.len
    unfold maxLen at hll
    obtain ⟨N, hN⟩ : ∃ N, l.length = N := ⟨_, rfl⟩
    rw [hN] at hS hll ⊢
    have HS := Lib.hid hS
    have HN := Lib.hid hN
    have HD := Lib.hid hd
    have HIH := Lib.hid ih
    clear hS hN hd ih
    go_enter Tryz.func48, Tryz.ntmps48
    go_wp2
    go_loopw [1, 5] (fun s1 s5 wr => ∃ (j : Nat) (m : Int), s5 = .int .i64 j ∧ j ≤ N ∧ s1 = .int .i64 m ∧ -1 ≤ m ∧ m ≤ 1000000 ∧ Tr.leftSs (l.drop j) m = Tr.leftSs l n ∧ Below w.heap.size w wr) (fun _ s5 _ => N - (intOf s5).toNat)
    case atStart => exact ⟨0, n, rfl, Nat.zero_le _, rfl, by omega, by omega, rfl, Below.refl _ _⟩
    case round =>
      obtain ⟨j, m, rfl, hj, rfl, hm0, hm1, heq, hbr⟩ := hrel
      obtain ⟨wo, rfl⟩ : ∃ wo : World, wo = wr := ⟨_, rfl⟩
      have HEQ := Lib.hid heq
      have HBR := Lib.hid hbr
      by_cases hlt : j < N
      · by_cases hm : 0 ≤ m
        · obtain ⟨x, hx⟩ : ∃ x, l[j]? = some x := ⟨_, List.getElem?_eq_getElem (by rw [HN.out]; exact hlt)⟩
          obtain ⟨b, oo, vx, vy, vz, rfl, hblt, hc, hbd, hsx, hsy, hsz⟩ := (HS.out.keep hbr).get hx
          obtain ⟨x0, x1, x2, x3, x4⟩ := hc
          have hnm := hbd.name
          unfold maxLen at hnm
          rw [Tr.drop_get hx, Tr.leftSs_cons hm] at heq
          have HEQ2 := Lib.hid heq
          have HX := Lib.hid hx
          clear heq hbr hx HEQ
          by_cases h40 : 40 < x.name.size
          · have hres : Tr.leftSs l n = -1 := by rw [← HEQ2.out, Tr.leftS_long h40, Tr.leftSs_neg (by omega)]
            have HR := Lib.hid hres
            clear hres
            go_wp2
            go_ret
            exact ⟨by rw [HR.out]; rfl, HBR.out⟩
          · obtain ⟨px, cx, rfl, _⟩ := hsx.form
            have hxl := hsx.len
            unfold maxLen at hxl
            obtain ⟨X, hX⟩ : ∃ X, x.exprs.length = X := ⟨_, rfl⟩
            rw [hX] at hsx hxl x2
            have HSX := Lib.hid hsx
            have HSY := Lib.hid hsy
            have HSZ := Lib.hid hsz
            have HX0 := Lib.hid hX
            clear hsx hsy hsz hX
            go_wp2
            go_loopw [1, 6] (fun s1 s6 wr => ∃ (k : Nat) (m2 : Int), s6 = .int .i64 k ∧ k ≤ X ∧ s1 = .int .i64 m2 ∧ -1 ≤ m2 ∧ m2 ≤ 1000000 ∧ Tr.leftEs (x.exprs.drop k) m2 = Tr.leftEs x.exprs (m - 1) ∧ Below wo.heap.size wo wr) (fun _ s6 _ => X - (intOf s6).toNat)
            case atStart => exact ⟨0, m - 1, rfl, Nat.zero_le _, rfl, by omega, by omega, rfl, Below.refl _ _⟩
            case round =>
              obtain ⟨k, m2, rfl, hk, rfl, hm20, hm21, heq, hbr⟩ := hrel
              have HE := Lib.hid heq
              have HBW := Lib.hid hbr
              have e2 := cell_keep' hbr x2
              by_cases hgo : k < X ∧ 0 ≤ m2
              · obtain ⟨hk1, hk2⟩ := hgo
                obtain ⟨y, hy⟩ : ∃ y, x.exprs[k]? = some y := ⟨_, List.getElem?_eq_getElem (by rw [HX0.out]; exact hk1)⟩
                obtain ⟨b2, o2, aa, rfl, _, hc2, hbd2, hsl2⟩ := (HSX.out.keep hbr).get hy
                obtain ⟨y0, y1, y2, y3, y4, y5⟩ := hc2
                have hcall := leftExpr_any _ y aa m2 wr (Nat.le_refl _) hbd2 hsl2 hk2 hm21
                unfold exprV at hcall
                have hb2 := Tr.leftE_bd y m2 hk2
                rw [Tr.drop_get hy, Tr.leftEs_cons hk2] at heq
                have HE2 := Lib.hid heq
                have HC := Lib.hid hcall
                obtain ⟨r, hr⟩ : ∃ r, Tr.leftE y m2 = r := ⟨_, rfl⟩
                rw [hr] at hb2 HE2 HC
                clear heq hbr hcall hy hsl2 hbd2 hr HE x0 x1 x2 x3 x4
                go_wp2_with fail
                refine HC.out.mono ?_
                rintro e w2 ⟨rfl, hb2'⟩
                go_wp2_with fail
                go_roundw
                case rel => exact ⟨k + 1, r, by go_num, by omega, rfl, by omega, by omega, HE2.out, below_next HBW.out hb2'⟩
                case measure => simp [intOf]; omega
              · have hm2e : Tr.leftEs x.exprs (m - 1) = m2 := by
                  by_cases hk1 : k < X
                  · rw [← heq, Tr.leftEs_neg (by omega)]
                  · rw [← heq, List.drop_eq_nil_of_le (by rw [HX0.out]; omega), Tr.leftEs]
                have HM2 := Lib.hid hm2e
                have e3 := cell_keep' hbr x3
                have e4 := cell_keep' hbr x4
                have hgo' : X ≤ k ∨ (k < X ∧ m2 < 0) := by omega
                have hdd := Tr.S.deep_in HD.out HX.out
                have HDD := Lib.hid hdd
                clear heq hbr hm2e hgo x0 x1 x2 x3 x4 hdd
                rcases hgo' with hg | ⟨hg1, hg2⟩
                · by_cases c2 : 0 ≤ m2
                  · have hcall := HIH.out (d - 1) (by have := HDD.out.1; omega) x.body vy m2 wr HDD.out.2.1 (HSY.out.keep HBW.out) c2 hm21
                    have hb3 := Tr.leftSs_bd x.body m2 (by omega)
                    have HC := Lib.hid hcall
                    obtain ⟨m3, hr⟩ : ∃ r, Tr.leftSs x.body m2 = r := ⟨_, rfl⟩
                    rw [hr] at hb3 HC
                    have HM3 := Lib.hid (show (if 0 ≤ m2 then Tr.leftSs x.body m2 else m2) = m3 by rw [if_pos c2, hr])
                    clear hr hcall
                    go_wp2_with fail
                    refine HC.out.mono ?_
                    rintro e w3 ⟨rfl, hb3'⟩
                    have HB3 := Lib.hid (below_next HBW.out hb3')
                    have f4 := cell_keep' hb3' e4
                    clear hb3'
                    by_cases c3 : 0 ≤ m3
                    · have hcall := HIH.out (d - 1) (by have := HDD.out.1; omega) x.els vz m3 w3 HDD.out.2.2 (HSZ.out.keep HB3.out) c3 (by omega)
                      have hb4 := Tr.leftSs_bd x.els m3 (by omega)
                      have HC4 := Lib.hid hcall
                      obtain ⟨m4, hr⟩ : ∃ r, Tr.leftSs x.els m3 = r := ⟨_, rfl⟩
                      rw [hr] at hb4 HC4
                      have HM4 := Lib.hid (show (if 0 ≤ m3 then Tr.leftSs x.els m3 else m3) = m4 by rw [if_pos c3, hr])
                      clear hr hcall
                      go_wp2_with fail
                      refine HC4.out.mono ?_
                      rintro e w4 ⟨rfl, hb4'⟩
                      go_wp2_with fail
                      go_roundw
                      case rel => exact ⟨j + 1, m4, by go_num, by omega, rfl, by omega, by omega, by rw [← HEQ2.out, Tr.leftS_of h40 HM2.out HM3.out HM4.out], HBR.out.trans ((below_next HB3.out hb4').mono HBR.out.size)⟩
                      case measure => simp [intOf]; omega
                    · have HM4 := Lib.hid (show (if 0 ≤ m3 then Tr.leftSs x.els m3 else m3) = m3 by rw [if_neg c3])
                      go_wp2_with fail
                      go_roundw
                      case rel => exact ⟨j + 1, m3, by go_num, by omega, rfl, by omega, by omega, by rw [← HEQ2.out, Tr.leftS_of h40 HM2.out HM3.out HM4.out], HBR.out.trans (HB3.out.mono HBR.out.size)⟩
                      case measure => simp [intOf]; omega
                  · have HM3 := Lib.hid (show (if 0 ≤ m2 then Tr.leftSs x.body m2 else m2) = m2 by rw [if_neg c2])
                    have HM4 := Lib.hid (show (if 0 ≤ m2 then Tr.leftSs x.els m2 else m2) = m2 by rw [if_neg c2])
                    go_wp2_with fail
                    go_roundw
                    case rel => exact ⟨j + 1, m2, by go_num, by omega, rfl, by omega, by omega, by rw [← HEQ2.out, Tr.leftS_of h40 HM2.out HM3.out HM4.out], HBR.out.trans (HBW.out.mono HBR.out.size)⟩
                    case measure => simp [intOf]; omega
                · have HM3 := Lib.hid (show (if 0 ≤ m2 then Tr.leftSs x.body m2 else m2) = m2 by rw [if_neg (by omega)])
                  have HM4 := Lib.hid (show (if 0 ≤ m2 then Tr.leftSs x.els m2 else m2) = m2 by rw [if_neg (by omega)])
                  go_wp2_with fail
                  go_roundw
                  case rel => exact ⟨j + 1, m2, by go_num, by omega, rfl, by omega, by omega, by rw [← HEQ2.out, Tr.leftS_of h40 HM2.out HM3.out HM4.out], HBR.out.trans (HBW.out.mono HBR.out.size)⟩
                  case measure => simp [intOf]; omega
        · have hres : Tr.leftSs l n = m := by rw [← heq, Tr.leftSs_neg (by omega)]
          have HR := Lib.hid hres
          clear heq hbr hres
          go_wp2
          go_ret
          exact ⟨by rw [HR.out]; rfl, HBR.out⟩
      · have hres : Tr.leftSs l n = m := by rw [← heq, List.drop_eq_nil_of_le (by rw [HN.out]; omega), Tr.leftSs]
        have HR := Lib.hid hres
        clear heq hbr hres
        go_wp2
        go_ret
        exact ⟨by rw [HR.out]; rfl, HBR.out⟩
end Go.Proofs.YtlgfickhkejdjaaGreatDoor

namespace Go.Proofs.YtlgfickhkejdjaaGreatDoor
namespace Tr
mutual
/-- no statement has more than 2^62 expressions -/
def fitS : S → Prop
  | .mk _ _ x b l => x.length ≤ 4611686018427387904 ∧ fitSs b ∧ fitSs l
def fitSs : List S → Prop
  | [] => True
  | s :: r => fitS s ∧ fitSs r
end
theorem fitSs_get : ∀ {l : List S} {j : Nat} {s : S}, fitSs l → l[j]? = some s → fitS s
  | [], j, s, _, h => by simp at h
  | x :: r, 0, s, h, hj => by cases hj; unfold fitSs at h; exact h.1
  | x :: r, j + 1, s, h, hj => by unfold fitSs at h; exact fitSs_get h.2 (by simpa using hj)
theorem fitS_parts {s : S} (h : fitS s) : s.exprs.length ≤ 4611686018427387904 ∧ fitSs s.body ∧ fitSs s.els := by
  cases s with
  | mk k nm x b l => unfold fitS at h; exact h
theorem leftE_less (e : E) (n : Int) (h : 0 ≤ n) : leftE e n ≤ n - 1 := by
  cases e with
  | mk k o i nm a l =>
    unfold leftE
    split
    · omega
    · exact (leftEs_bd l (n - 1) (by omega)).2
theorem leftEs_len : ∀ (l : List E) (n : Int), 0 ≤ leftEs l n → (l.length : Int) ≤ n
  | [], n, h => by rw [leftEs] at h; simpa using h
  | e :: r, n, h => by
    by_cases h0 : n < 0
    · rw [leftEs, if_pos h0] at h; omega
    · rw [leftEs, if_neg h0] at h
      have := leftEs_len r _ h
      have := leftE_less e n (by omega)
      simp only [List.length_cons]
      omega
mutual
theorem fitS_of : ∀ (s : S) (n : Int), 0 ≤ leftS s n → n ≤ 1000000 → fitS s
  | .mk k nm x b l, n, h, hn => by
    unfold leftS at h
    split at h
    · omega
    · simp only [] at h
      have a1 : 0 ≤ leftEs x (n - 1) := by
        rcases Int.lt_or_le (leftEs x (n - 1)) 0 with hlt | hge
        · rw [if_neg (by omega : ¬ 0 ≤ leftEs x (n - 1)), if_neg (by omega)] at h; omega
        · exact hge
      rw [if_pos a1] at h
      have a2 : 0 ≤ leftSs b (leftEs x (n - 1)) := by
        rcases Int.lt_or_le (leftSs b (leftEs x (n - 1))) 0 with hlt | hge
        · rw [if_neg (by omega)] at h; omega
        · exact hge
      rw [if_pos a2] at h
      have b1 := leftEs_len x _ a1
      have b2 := (leftEs_bd x (n - 1) (by omega)).2
      have b3 := (leftSs_bd b (leftEs x (n - 1)) (by omega)).2
      unfold fitS
      exact ⟨by omega, fitSs_of b _ a2 (by omega), fitSs_of l _ h (by omega)⟩
theorem fitSs_of : ∀ (l : List S) (n : Int), 0 ≤ leftSs l n → n ≤ 1000000 → fitSs l
  | [], n, _, _ => by unfold fitSs; trivial
  | s :: r, n, h, hn => by
    by_cases h0 : n < 0
    · rw [leftSs, if_pos h0] at h; omega
    · rw [leftSs, if_neg h0] at h
      have b1 := leftS_bd s n (by omega)
      have a1 : 0 ≤ leftS s n := by
        rcases Int.lt_or_le (leftS s n) 0 with hlt | hge
        · rw [leftSs_neg hlt] at h; omega
        · exact hge
      unfold fitSs
      exact ⟨fitS_of s n a1 hn, fitSs_of r _ h (by omega)⟩
end
def fitM (m : M) : Prop := fitSs m.body
def fitC (c : C) : Prop := ∀ m ∈ c.methods, fitM m
def fitP (cs : List C) : Prop := ∀ c ∈ cs, fitC c
theorem shortL_le (l : List ByteArray) (n : Int) (h : -1 ≤ n) : shortL l n ≤ n := by
  unfold shortL; split <;> omega
theorem leftM_le (m : M) (n : Int) (h : 0 ≤ n) : leftM m n ≤ n := by
  unfold leftM
  split
  · omega
  · simp only []
    have := shortL_le m.params (n - 1) (by omega)
    split
    · have := (leftSs_bd m.body (shortL m.params (n - 1)) (by omega)).2; omega
    · omega
theorem leftMs_le : ∀ (l : List M) (n : Int), leftMs l n ≤ n
  | [], n => by rw [leftMs]; exact Int.le_refl _
  | m :: r, n => by
    by_cases h0 : n < 0
    · rw [leftMs, if_pos h0]; exact Int.le_refl _
    · rw [leftMs, if_neg h0]
      have := leftMs_le r (leftM m n)
      have := leftM_le m n (by omega)
      omega
theorem leftC_le (c : C) (n : Int) (h : 0 ≤ n) : leftC c n ≤ n := by
  unfold leftC
  split
  · omega
  · have := shortL_le c.fields (n - 1) (by omega)
    have := leftMs_le c.methods (shortL c.fields (n - 1))
    omega
theorem fitM_of (m : M) (n : Int) (h : 0 ≤ leftM m n) (h0 : 0 ≤ n) (hn : n ≤ 1000000) : fitM m := by
  unfold leftM at h
  split at h
  · omega
  · simp only [] at h
    have := shortL_le m.params (n - 1) (by omega)
    split at h
    · exact fitSs_of _ _ h (by omega)
    · omega
theorem fitMs_of : ∀ (l : List M) (n : Int), 0 ≤ leftMs l n → n ≤ 1000000 → ∀ m ∈ l, fitM m
  | [], n, _, _ => by intro m hm; cases hm
  | x :: r, n, h, hn => by
    by_cases h0 : n < 0
    · rw [leftMs, if_pos h0] at h; omega
    · rw [leftMs, if_neg h0] at h
      have a1 : 0 ≤ leftM x n := by
        have := leftMs_le r (leftM x n)
        omega
      have := leftM_le x n (by omega)
      intro m hm
      rcases List.mem_cons.1 hm with rfl | hm
      · exact fitM_of m n a1 (by omega) hn
      · exact fitMs_of r _ h (by omega) m hm
theorem fitC_of (c : C) (n : Int) (h : 0 ≤ leftC c n) (h0 : 0 ≤ n) (hn : n ≤ 1000000) : fitC c := by
  unfold leftC at h
  split at h
  · omega
  · have := shortL_le c.fields (n - 1) (by omega)
    exact fitMs_of _ _ h (by omega)
theorem leftCs_le : ∀ (l : List C) (n : Int), leftCs l n ≤ n
  | [], n => by rw [leftCs]; exact Int.le_refl _
  | m :: r, n => by
    by_cases h0 : n < 0
    · rw [leftCs, if_pos h0]; exact Int.le_refl _
    · rw [leftCs, if_neg h0]
      have := leftCs_le r (leftC m n)
      have := leftC_le m n (by omega)
      omega
theorem fitCs_of : ∀ (l : List C) (n : Int), 0 ≤ leftCs l n → n ≤ 1000000 → fitP l
  | [], n, _, _ => by intro m hm; cases hm
  | x :: r, n, h, hn => by
    by_cases h0 : n < 0
    · rw [leftCs, if_pos h0] at h; omega
    · rw [leftCs, if_neg h0] at h
      have a1 : 0 ≤ leftC x n := by
        have := leftCs_le r (leftC x n)
        omega
      have := leftC_le x n (by omega)
      intro m hm
      rcases List.mem_cons.1 hm with rfl | hm
      · exact fitC_of m n a1 (by omega) hn
      · exact fitCs_of r _ h (by omega) m hm
theorem fitP_of {cs : List C} {n : Int} (h : fewP cs n = true) (hn : n ≤ 1000000) : fitP cs := fitCs_of cs n (of_decide_eq_true h) hn
end Tr
end Go.Proofs.YtlgfickhkejdjaaGreatDoor

namespace Go.Proofs.YtlgfickhkejdjaaGreatDoor
open Go.RowKit

theorem data_len (s : ByteArray) : s.data.toList.length = s.size := (Lib.size_eq s).symm
theorem all_get {α : Type} {p : α → Bool} {l : List α} {n : Nat} (hn : l.length = n) (h : ∀ j x, j < n → l[j]? = some x → p x = true) : l.all p = true := by
  rw [List.all_eq_true]
  intro x hx
  obtain ⟨j, hj, e⟩ := List.mem_iff_getElem.1 hx
  exact h j x (by omega) (by rw [List.getElem?_eq_getElem hj, e])
theorem all_no {α : Type} {p : α → Bool} {l : List α} {j : Nat} {x : α} (hj : l[j]? = some x) (h : p x = false) : l.all p = false := by
  rw [List.all_eq_false]
  exact ⟨x, List.mem_of_getElem? hj, by rw [h]; simp⟩
theorem boxE_cell (w : World) (k o i : Int) (nm : ByteArray) (a : Bool) (v : Value) : ∀ (j : Nat) (u : Value), (#[.int .i64 k, .int .i64 o, .int .i64 i, .string nm, .bool a, v] : Array Value)[j]? = some u → (w.alloc (.cells #[.int .i64 k, .int .i64 o, .int .i64 i, .string nm, .bool a, v] 24)).cell? ⟨w.heap.size, j, none⟩ = some u := fun j u h => box_cell w _ _ j u h
theorem validEs_cons (e : Tr.E) (r : List Tr.E) : Tr.validEs (e :: r) = (Tr.validE e && Tr.validEs r) := rfl
theorem validEs_at {l : List Tr.E} {j : Nat} {x : Tr.E} (h : l[j]? = some x) (hv : Tr.validE x = false) : Tr.validEs l = false := by
  rw [Tr.validEs_all]; exact all_no h hv
theorem validEs_yes {l : List Tr.E} {n : Nat} (hn : l.length = n) (h : ∀ j x, j < n → l[j]? = some x → Tr.validE x = true) : Tr.validEs l = true := by
  rw [Tr.validEs_all]; exact all_get hn h

theorem isE_dec (nm : ByteArray) : nm.toList.isEmpty = decide (nm.size = 0) := by
  have h1 := bytes_beq nm ⟨#[]⟩
  have h2 : (⟨#[]⟩ : ByteArray).toList = [] := by first | rfl | simp | decide +kernel
  have h3 : nm.toList.isEmpty = (nm.toList == []) := by cases nm.toList <;> rfl
  rw [h3, ← h2, h1]
  rw [Bool.eq_iff_iff, decide_eq_true_eq, decide_eq_true_eq]
  constructor
  · rintro rfl; rfl
  · intro h
    cases nm with
    | mk d =>
      have : d = #[] := Array.eq_empty_of_size_eq_zero h
      rw [this]
theorem isE_eq {nm : ByteArray} (h : nm.toList.isEmpty = true) : nm.size = 0 := by rw [isE_dec] at h; exact of_decide_eq_true h
theorem size_nz {nm : ByteArray} (h : nm.toList.isEmpty = false) : ¬ nm.size = 0 := by rw [isE_dec] at h; exact of_decide_eq_false h
theorem okE_0 (i : Int) (nm : ByteArray) (n : Nat) : Tr.okE 0 0 i nm false n = decide (n = 0 ∧ nm.size = 0 ∧ 0 ≤ i ∧ i ≤ 2305843009213693951) := by
  unfold Tr.okE
  rw [if_pos rfl, Bool.and_false, decide_eq_false (fun h => h.1 rfl), decide_eq_false (fun h => h.2 rfl)]
  rfl
theorem okE_10 (o : Int) (nm : ByteArray) (n : Nat) : Tr.okE 10 o 0 nm false n = decide (n = 2 ∧ nm.size = 0 ∧ 0 ≤ o ∧ o ≤ 12) := by
  unfold Tr.okE
  rw [Bool.and_false, decide_eq_false (p := (10 : Int) ≠ 0 ∧ (0 : Int) ≠ 0) (fun h => h.2 rfl), decide_eq_false (p := (10 : Int) ≠ 10 ∧ o ≠ 0) (fun h => h.1 rfl)]
  rfl
theorem okE_other {k : Int} {nm : ByteArray} {n : Nat} (h : k < 0 ∨ 10 < k) : Tr.okE k 0 0 nm false n = false := by
  unfold Tr.okE
  rw [if_neg (by omega), if_neg (by omega), if_neg (by omega), if_neg (by omega), if_neg (by omega), if_neg (by omega), if_neg (by omega), if_neg (by omega), if_neg (by omega), if_neg (by omega), if_neg (by omega), Bool.and_false]
def stmtV (s : Tr.S) (x y z : Value) : Value := .agg #[.int .i64 s.kind, .string s.name, x, y, z]
section
variable (nm : ByteArray) (n nb ne : Nat)
theorem okS_0 : Tr.okS 0 nm n nb ne = (decide (n = 1 ∧ nb = 0 ∧ ne = 0) && Tr.varB nm) := rfl
theorem okS_1 : Tr.okS 1 nm n nb ne = (decide (n = 1 ∧ nb = 0 ∧ ne = 0) && Tr.varB nm) := rfl
theorem okS_2 : Tr.okS 2 nm n nb ne = (decide (n = 2 ∧ nb = 0 ∧ ne = 0) && Tr.varB nm) := rfl
theorem okS_3 : Tr.okS 3 nm n nb ne = decide (n = 1 ∧ nm.size = 0) := rfl
theorem okS_4 : Tr.okS 4 nm n nb ne = decide (n = 1 ∧ nm.size = 0 ∧ ne = 0) := rfl
theorem okS_5 : Tr.okS 5 nm n nb ne = (decide (1 ≤ n ∧ nb = 0 ∧ ne = 0) && Tr.varB nm) := rfl
theorem okS_6 : Tr.okS 6 nm n nb ne = decide (n = 1 ∧ nm.size = 0 ∧ nb = 0 ∧ ne = 0) := rfl
theorem okS_7 : Tr.okS 7 nm n nb ne = decide (n = 2 ∧ nm.size = 0 ∧ nb = 0 ∧ ne = 0) := rfl
theorem okS_8 : Tr.okS 8 nm n nb ne = (decide (n = 2 ∧ nb = 0 ∧ ne = 0) && Tr.varB nm) := rfl
theorem okS_9 : Tr.okS 9 nm n nb ne = decide (n = 0 ∧ nm.size = 0 ∧ nb = 0 ∧ ne = 0) := rfl
theorem okS_other {k : Int} {nm : ByteArray} {n nb ne : Nat} (h : k < 0 ∨ 9 < k) : Tr.okS k nm n nb ne = false := by
  unfold Tr.okS
  rw [if_neg (by omega), if_neg (by omega), if_neg (by omega), if_neg (by omega), if_neg (by omega), if_neg (by omega), if_neg (by omega), if_neg (by omega), if_neg (by omega), if_neg (by omega)]
end
theorem validSs_at {l : List Tr.S} {j : Nat} {x : Tr.S} (h : l[j]? = some x) (hv : Tr.validS x = false) : Tr.validSs l = false := by
  rw [Tr.validSs_all]; exact all_no h hv
theorem validSs_yes {l : List Tr.S} {n : Nat} (hn : l.length = n) (h : ∀ j x, j < n → l[j]? = some x → Tr.validS x = true) : Tr.validSs l = true := by
  rw [Tr.validSs_all]; exact all_get hn h

theorem SlStr.form {w : World} {v : Value} {l : List ByteArray} (h : SlStr w v l) : ∃ p c, v = .slice p l.length c := by
  obtain ⟨p, c, e, _⟩ := h; exact ⟨p, c, e⟩
theorem SlM.form {w : World} {v : Value} {l : List Tr.M} (h : SlM w v l) : ∃ p c, v = .slice p l.length c := by
  obtain ⟨p, c, e, _⟩ := h; exact ⟨p, c, e⟩
theorem SlM.len {w : World} {v : Value} {l : List Tr.M} (h : SlM w v l) : l.length ≤ maxLen := by
  obtain ⟨p, c, e, h1, _⟩ := h; exact h1
theorem SlM.get {w : World} {p : Option Addr} {n c : Nat} {l : List Tr.M} (h : SlM w (.slice p n c) l) {j : Nat} {m : Tr.M} (hj : l[j]? = some m) :
    ∃ b o x y, p = some ⟨b, o, none⟩ ∧ b < w.heap.size ∧ CellsM w b (o + j * 3) m x y ∧ m.name.size ≤ maxLen ∧ SlStr w x m.params ∧ SlS w y m.body := by
  obtain ⟨p', c', e, _, _, hx⟩ := h
  cases e
  obtain ⟨h1, b, o, x, y, h2, h3, h4, h5, h6⟩ := hx j m hj
  exact ⟨b, o, x, y, h2, h3, h4, h1, h5, h6⟩
theorem SlC.form {w : World} {v : Value} {l : List Tr.C} (h : SlC w v l) : ∃ p c, v = .slice p l.length c := by
  obtain ⟨p, c, e, _⟩ := h; exact ⟨p, c, e⟩
theorem SlC.len {w : World} {v : Value} {l : List Tr.C} (h : SlC w v l) : l.length ≤ maxLen := by
  obtain ⟨p, c, e, h1, _⟩ := h; exact h1
theorem SlC.get {w : World} {p : Option Addr} {n c : Nat} {l : List Tr.C} (h : SlC w (.slice p n c) l) {j : Nat} {m : Tr.C} (hj : l[j]? = some m) :
    ∃ b o x y, p = some ⟨b, o, none⟩ ∧ b < w.heap.size ∧ CellsC w b (o + j * 4) m x y ∧ m.name.size ≤ maxLen ∧ SlStr w x m.fields ∧ SlM w y m.methods := by
  obtain ⟨p', c', e, _, _, hx⟩ := h
  cases e
  obtain ⟨h1, b, o, x, y, h2, h3, h4, h5, h6⟩ := hx j m hj
  exact ⟨b, o, x, y, h2, h3, h4, h1, h5, h6⟩

end Go.Proofs.YtlgfickhkejdjaaGreatDoor

namespace Go.Proofs.YtlgfickhkejdjaaGreatDoor
open Go.RowKit

namespace Tr
theorem shortL_bd (l : List ByteArray) (n : Int) (hl : l.length ≤ 9223372036854775807) (h0 : -1 ≤ n) (h1 : n ≤ 1000000) : -9223372036854775808 ≤ shortL l n ∧ shortL l n ≤ n := by
  unfold shortL
  split <;> omega
theorem leftMs_neg {n : Int} (h : n < 0) : ∀ l, leftMs l n = n
  | [] => rfl
  | e :: r => by rw [leftMs, if_pos h]
theorem leftMs_cons {n : Int} (h : 0 ≤ n) (e : M) (r : List M) : leftMs (e :: r) n = leftMs r (leftM e n) := by rw [leftMs, if_neg (by omega)]
theorem leftCs_neg {n : Int} (h : n < 0) : ∀ l, leftCs l n = n
  | [] => rfl
  | e :: r => by rw [leftCs, if_pos h]
theorem leftCs_cons {n : Int} (h : 0 ≤ n) (e : C) (r : List C) : leftCs (e :: r) n = leftCs r (leftC e n) := by rw [leftCs, if_neg (by omega)]
theorem leftM_of {m : M} {n a b : Int} (h : ¬ 40 < m.name.size) (h1 : shortL m.params (n - 1) = a) (h2 : (if 0 ≤ a then leftSs m.body a else a) = b) : leftM m n = b := by
  unfold leftM
  rw [if_neg h]
  subst h1
  exact h2
theorem leftM_long {m : M} {n : Int} (h : 40 < m.name.size) : leftM m n = -1 := by unfold leftM; rw [if_pos h]
theorem leftC_long {m : C} {n : Int} (h : 40 < m.name.size) : leftC m n = -1 := by unfold leftC; rw [if_pos h]
theorem leftC_of {m : C} {n a b : Int} (h : ¬ 40 < m.name.size) (h1 : shortL m.fields (n - 1) = a) (h2 : leftMs m.methods a = b) : leftC m n = b := by
  unfold leftC
  rw [if_neg h, h1, h2]
end Tr

set_option maxRecDepth 100000 in
set_option maxHeartbeats 8000000 in
theorem few_any (v : Value) (cs : List Tr.C) (n : Int) (w : World) (h : SlC w v cs) (h0 : 0 ≤ n) (hn : n ≤ 1000000) :
    Calls Tryz.prog 19 #[.agg #[v], .int .i64 n] w fun r w' => r = .returned (.bool (Tr.fewP cs n)) ∧ Below w.heap.size w w' := by
  obtain ⟨p, c, rfl⟩ := h.form
  have hll := h.len
  unfold maxLen at hll
  obtain ⟨N, hN⟩ : ∃ N, cs.length = N := ⟨_, rfl⟩
  rw [hN] at h hll ⊢
  have hbx := below_box w (.cells #[.slice p N c] 32)
  have HS := Lib.hid (h.keep hbx)
  have HN := Lib.hid hN
  have HB := Lib.hid hbx
  have b0 := box_cell w #[.slice p N c] 32 0 _ rfl
  obtain ⟨w1, hw1⟩ : ∃ w1, w1 = w.alloc (.cells #[.slice p N c] 32) := ⟨_, rfl⟩
  rw [← hw1] at HS HB b0
  clear h hN hbx
  have hfin : Hid (∀ m : Int, Tr.leftCs cs n = m → Tr.fewP cs n = decide (0 ≤ m)) := fun m hm => by unfold Tr.fewP; rw [hm]
  go_enter Tryz.func19, Tryz.ntmps19
  go_wp2
  rw [← hw1]
  clear hw1
  go_loopw [1, 5] (fun s1 s5 wr => ∃ (j : Nat) (m : Int), s5 = .int .i64 j ∧ j ≤ N ∧ s1 = .int .i64 m ∧ -9223372036854775808 ≤ m ∧ m ≤ 1000000 ∧ Tr.leftCs (cs.drop j) m = Tr.leftCs cs n ∧ Below w1.heap.size w1 wr) (fun _ s5 _ => N - (intOf s5).toNat)
  case atStart => exact ⟨0, n, rfl, Nat.zero_le _, rfl, by omega, by omega, rfl, Below.refl _ _⟩
  case round =>
    obtain ⟨j, m, rfl, hj, rfl, hm0, hm1, heq, hbr⟩ := hrel
    obtain ⟨wo, rfl⟩ : ∃ wo : World, wo = wr := ⟨_, rfl⟩
    have HEQ := Lib.hid heq
    have HBR := Lib.hid hbr
    have c0 := cell_keep' hbr b0
    by_cases hlt : j < N
    · by_cases hm : 0 ≤ m
      · obtain ⟨x, hx⟩ : ∃ x, cs[j]? = some x := ⟨_, List.getElem?_eq_getElem (by rw [HN.out]; exact hlt)⟩
        obtain ⟨b, oo, vf, vm, rfl, hblt, hc, hnm, hsf, hsm⟩ := (HS.out.keep hbr).get hx
        obtain ⟨x0, x1, x2, x3⟩ := hc
        rw [Tr.drop_get hx, Tr.leftCs_cons hm] at heq
        have HEQ2 := Lib.hid heq
        obtain ⟨nm, act, fs, ms⟩ := x
        simp only [] at hnm hsf hsm x0 x1
        unfold maxLen at hnm
        obtain ⟨pm, cm, rfl⟩ := hsm.form
        have hml := hsm.len
        have hfl : fs.length ≤ maxLen := by obtain ⟨_, _, _, h1, _⟩ := hsf; exact h1
        unfold maxLen at hml hfl
        obtain ⟨MN, hMN⟩ : ∃ N, ms.length = N := ⟨_, rfl⟩
        rw [hMN] at hsm hml x3
        obtain ⟨pf, cf, rfl⟩ := hsf.form
        have hsb := Tr.shortL_bd fs (m - 1) hfl (by omega) (by omega)
        obtain ⟨FN, hFN⟩ : ∃ N, fs.length = N := ⟨_, rfl⟩
        rw [hFN] at hsf x2 hfl
        have hbx := below_box wo (.cells #[.string nm, .bool act, .slice pf FN cf, .slice pm MN cm] 52)
        have HSF := Lib.hid (hsf.keep hbx)
        have HSM := Lib.hid (hsm.keep hbx)
        have HMN := Lib.hid hMN
        have HBX := Lib.hid hbx
        have e3 := box_cell wo #[.string nm, .bool act, .slice pf FN cf, .slice pm MN cm] 52 3 _ rfl
        obtain ⟨W2, hW2⟩ : ∃ W2, W2 = wo.alloc (.cells #[.string nm, .bool act, .slice pf FN cf, .slice pm MN cm] 52) := ⟨_, rfl⟩
        rw [← hW2] at HSF HSM HBX e3
        clear hx hbr hsf hsm hMN hFN hbx heq HEQ
        by_cases h40 : 40 < nm.size
        · have hf := Lib.hid (hfin.out (-1) (by rw [← HEQ2.out, Tr.leftC_long h40, Tr.leftCs_neg (by omega)]))
          go_wp2
          go_ret
          exact ⟨by rw [hf.out]; rfl, by first | exact (HB.out.trans (HBR.out.mono HB.out.size)).alloc (Nat.le_trans HB.out.size HBR.out.size) _ | exact HB.out.trans ((below_next HBR.out (below_box _ _)).mono HB.out.size)⟩
        · have HW2 := Lib.hid hW2
          clear hW2
          go_wp2_with fail
          rw [← HW2.out]
          obtain ⟨r, hr⟩ : ∃ r, Tr.shortL fs (m - 1) = r := ⟨_, rfl⟩
          have hcall := short_any _ fs (m - 1) W2 HSF.out (by omega) (by omega)
          rw [hr] at hcall hsb
          have HR := Lib.hid hr
          have HCL := Lib.hid hcall
          clear hr hcall HW2
          refine HCL.out.mono ?_
          rintro e w3 ⟨rfl, rfl⟩
          have HBW := Lib.hid (below_next HBR.out HBX.out)
          go_wp2_with fail
          go_loopw [1, 7] (fun s1 s7 wr => ∃ (k : Nat) (m2 : Int), s7 = .int .i64 k ∧ k ≤ MN ∧ s1 = .int .i64 m2 ∧ -9223372036854775808 ≤ m2 ∧ m2 ≤ 1000000 ∧ Tr.leftMs (ms.drop k) m2 = Tr.leftMs ms r ∧ Below W2.heap.size W2 wr) (fun _ s7 _ => MN - (intOf s7).toNat)
          case atStart => exact ⟨0, r, rfl, Nat.zero_le _, rfl, by omega, by omega, rfl, Below.refl _ _⟩
          case round =>
            obtain ⟨k, m2, rfl, hk, rfl, hm20, hm21, heq, hbr⟩ := hrel
            have HE := Lib.hid heq
            have HBM := Lib.hid hbr
            have k3 := cell_keep' hbr e3
            by_cases hgo : k < MN ∧ 0 ≤ m2
            · obtain ⟨hk1, hk2⟩ := hgo
              obtain ⟨y, hy⟩ : ∃ y, ms[k]? = some y := ⟨_, List.getElem?_eq_getElem (by rw [HMN.out]; exact hk1)⟩
              obtain ⟨b2, o2, vp, vb, rfl, hblt2, hc2, hnm2, hsp, hsb2⟩ := (HSM.out.keep hbr).get hy
              obtain ⟨y0, y1, y2⟩ := hc2
              rw [Tr.drop_get hy, Tr.leftMs_cons hk2] at heq
              have HE2 := Lib.hid heq
              obtain ⟨mn, ps, bd⟩ := y
              simp only [] at hnm2 hsp hsb2 y0
              unfold maxLen at hnm2
              have hpl : ps.length ≤ maxLen := by obtain ⟨_, _, _, h1, _⟩ := hsp; exact h1
              unfold maxLen at hpl
              have hsb3 := Tr.shortL_bd ps (m2 - 1) hpl (by omega) (by omega)
              have HSP := Lib.hid hsp
              have HSB := Lib.hid hsb2
              clear hy heq hsp hsb2 hpl hbr HE
              by_cases h40m : 40 < mn.size
              · have hf := Lib.hid (hfin.out (-1) (by rw [← HEQ2.out, Tr.leftC_of h40 HR.out (show Tr.leftMs ms r = -1 by rw [← HE2.out, Tr.leftM_long h40m, Tr.leftMs_neg (by omega)]), Tr.leftCs_neg (by omega)]))
                go_wp2
                go_ret
                exact ⟨by rw [hf.out]; rfl, HB.out.trans ((below_next HBW.out HBM.out).mono HB.out.size)⟩
              · obtain ⟨r2, hr2⟩ : ∃ r, Tr.shortL ps (m2 - 1) = r := ⟨_, rfl⟩
                have hcall := short_any _ ps (m2 - 1) wr HSP.out (by omega) (by omega)
                rw [hr2] at hcall hsb3
                have HR2 := Lib.hid hr2
                have HCL2 := Lib.hid hcall
                clear hr2 hcall
                go_wp2_with fail
                refine HCL2.out.mono ?_
                rintro e w4 ⟨rfl, rfl⟩
                by_cases hr0 : 0 ≤ r2
                · have hcall := leftStmts_any _ bd vb r2 wr (Nat.le_refl _) HSB.out hr0 (by omega)
                  have hb5 := Tr.leftSs_bd bd r2 (by omega)
                  obtain ⟨r3, hr3⟩ : ∃ r, Tr.leftSs bd r2 = r := ⟨_, rfl⟩
                  rw [hr3] at hcall hb5
                  have HCL3 := Lib.hid hcall
                  have HM3 := Lib.hid (show (if 0 ≤ r2 then Tr.leftSs bd r2 else r2) = r3 by rw [if_pos hr0, hr3])
                  clear hr3 hcall
                  go_wp2_with fail
                  refine HCL3.out.mono ?_
                  rintro e w5 ⟨rfl, hb5'⟩
                  go_wp2_with fail
                  go_roundw
                  case rel => exact ⟨k + 1, r3, by go_num, by omega, rfl, by omega, by omega, by rw [← HE2.out, Tr.leftM_of h40m HR2.out HM3.out], below_next HBM.out hb5'⟩
                  case measure => simp [intOf]; omega
                · have HM3 := Lib.hid (show (if 0 ≤ r2 then Tr.leftSs bd r2 else r2) = r2 by rw [if_neg hr0])
                  go_wp2_with fail
                  go_roundw
                  case rel => exact ⟨k + 1, r2, by go_num, by omega, rfl, by omega, by omega, by rw [← HE2.out, Tr.leftM_of h40m HR2.out HM3.out], HBM.out⟩
                  case measure => simp [intOf]; omega
            · have hm2e : Tr.leftMs ms r = m2 := by
                by_cases hk1 : k < MN
                · rw [← heq, Tr.leftMs_neg (by omega)]
                · rw [← heq, List.drop_eq_nil_of_le (by rw [HMN.out]; omega), Tr.leftMs]
              have HM2 := Lib.hid hm2e
              have hgo' : MN ≤ k ∨ (k < MN ∧ m2 < 0) := by omega
              clear heq hbr hm2e hgo
              rcases hgo' with hg | ⟨hg1, hg2⟩
              all_goals
                go_wp2_with fail
                go_roundw
                case rel => exact ⟨j + 1, m2, by go_num, by omega, rfl, by omega, by omega, by rw [← HEQ2.out, Tr.leftC_of h40 HR.out HM2.out], HBW.out.trans (HBM.out.mono HBW.out.size)⟩
                case measure => simp [intOf]; omega
      · have hf := Lib.hid (hfin.out m (by rw [← heq, Tr.leftCs_neg (by omega)]))
        clear heq hbr
        go_wp2
        go_ret
        exact ⟨by rw [hf.out, decide_eq_false (by omega)]; rfl, HB.out.trans (HBR.out.mono HB.out.size)⟩
    · have hf := Lib.hid (hfin.out m (by rw [← heq, List.drop_eq_nil_of_le (by rw [HN.out]; omega), Tr.leftCs]))
      clear heq hbr
      go_wp2
      go_ret
      exact ⟨by rw [hf.out]; rfl, HB.out.trans (HBR.out.mono HB.out.size)⟩
end Go.Proofs.YtlgfickhkejdjaaGreatDoor

namespace Go.Proofs.YtlgfickhkejdjaaGreatDoor
namespace Tr

/-- the text is the first token, of kind k -/
def tokB (k : Nat) (l : List UInt8) : Bool :=
  match Lex.scan l with
  | .toks (t :: _) => t.kind == k && decide (t.text = l)
  | _ => false

theorem letter_nat (c : UInt8) : Lex.letter c = true ↔ (97 ≤ c.toNat ∧ c.toNat ≤ 122 ∨ 65 ≤ c.toNat ∧ c.toNat ≤ 90) := by unfold Lex.letter; rw [decide_eq_true_eq]
theorem skip_letter {c : UInt8} {r : List UInt8} (h : Lex.letter c = true) : Lex.skip false (c :: r) = c :: r := by
  rw [letter_nat] at h
  have h1 : Lex.space c = false := by unfold Lex.space; rw [decide_eq_false_iff_not]; omega
  rw [Lex.skip, h1]
  simp only [Bool.false_eq_true, if_false]
  rw [if_neg (by omega)]
theorem takeWhile_all {p : UInt8 → Bool} : ∀ {l : List UInt8}, l.all p = true → l.takeWhile p = l
  | [], _ => rfl
  | c :: r, h => by
    rw [List.all_cons, Bool.and_eq_true] at h
    rw [List.takeWhile_cons, if_pos h.1, takeWhile_all h.2]
theorem all_of_takeWhile {p : UInt8 → Bool} : ∀ {l : List UInt8}, l.takeWhile p = l → l.all p = true
  | [], _ => rfl
  | c :: r, h => by
    rw [List.takeWhile_cons] at h
    by_cases hc : p c = true
    · rw [if_pos hc] at h
      rw [List.all_cons, hc, all_of_takeWhile (List.cons.inj h).2]; rfl
    · rw [if_neg hc] at h; cases h
theorem scan_name {k : Nat} {l : List UInt8} (hl : l.length ≤ 31) (hh : Lex.letter (l.headD 0) = true) (h : Lex.nameAt l = .tok k l 0) (hne : l ≠ []) : tokB k l = true := by
  obtain ⟨c, r, rfl⟩ : ∃ c r, l = c :: r := by cases l with | nil => exact absurd rfl hne | cons c r => exact ⟨c, r, rfl⟩
  have hn : Lex.next (c :: r) = .tok k (c :: r) 0 := by unfold Lex.next; rw [if_pos hh]; exact h
  have hs : Lex.scan (c :: r) = .toks (⟨k, c :: r, 0, 0⟩ :: [⟨0, [], 0, (c :: r).length⟩]) := by
    unfold Lex.scan
    rw [if_neg (by omega), skip_letter (by simpa using hh)]
    rw [show (c :: r).length = r.length + 1 from rfl, Lex.scanF, hn]
    simp only []
    rw [List.drop_eq_nil_of_le (by simp)]
    rw [show Lex.skip false [] = [] from rfl, Lex.scanF_nil]
    simp
  unfold tokB
  rw [hs]
  simp
theorem next_of_tokB {k : Nat} {l : List UInt8} (h : tokB k l = true) (hk : 0 < k) : l ≠ [] ∧ ∃ v, Lex.next l = .tok k l v := by
  unfold tokB at h
  cases hs : Lex.scan l with
  | bad a e => rw [hs] at h; cases h
  | toks ts =>
    rw [hs] at h
    cases ts with
    | nil => cases h
    | cons t ts =>
      simp only [Bool.and_eq_true, beq_iff_eq, decide_eq_true_eq] at h
      obtain ⟨h1, h2⟩ := h
      unfold Lex.scan at hs
      split at hs
      · cases hs
      · have hle := Lex.skip_le false l
        cases hm : Lex.skip false l with
        | nil =>
          rw [hm, Lex.scanF_nil] at hs
          cases hs
          simp at h1
          omega
        | cons c r =>
          rw [hm] at hs hle
          cases hf : l.length with
          | zero => rw [hf] at hle; simp at hle
          | succ f =>
            rw [hf, Lex.scanF] at hs
            cases hn : Lex.next (c :: r) with
            | bad e => rw [hn] at hs; cases hs
            | tok k' t' v' =>
              rw [hn] at hs
              simp only [] at hs
              cases hr : Lex.scanF (f + 1) f (Lex.skip false ((c :: r).drop t'.length)) with
              | bad a e => rw [hr] at hs; cases hs
              | toks l' =>
                rw [hr] at hs
                simp only [Lex.Res.toks.injEq, List.cons.injEq] at hs
                obtain ⟨ht, _⟩ := hs
                rw [← ht] at h1 h2
                simp only [] at h1 h2
                subst h1
                obtain ⟨x1, x2, x3⟩ := Lex.next_text hn
                rw [h2] at x1 x3
                have : l = c :: r := by rw [x1]; exact List.take_of_length_le hle
                rw [h2] at hn
                rw [← this] at hn
                exact ⟨by rw [this]; simp, v', hn⟩
theorem tokB_name {k lo hi : Nat} (hk : k = 2 ∧ lo = 97 ∧ hi = 122 ∨ k = 3 ∧ lo = 65 ∧ hi = 90) (l : List UInt8) : tokB k l = nameL lo hi l := by
  rw [Bool.eq_iff_iff]
  constructor
  · intro h
    obtain ⟨hne, v, hn⟩ := next_of_tokB h (by omega)
    unfold Lex.next at hn
    split at hn
    · rename_i hl
      unfold Lex.nameAt at hn
      simp only [] at hn
      split at hn
      · cases hn
      · rename_i h31
        split at hn
        · have := (Lex.Got.tok.inj hn).1; omega
        · rename_i hkw
          have hw : l.takeWhile Lex.wordc = l := by
            split at hn <;> exact (Lex.Got.tok.inj hn).2.1
          have hall := all_of_takeWhile hw
          rw [hw] at h31 hkw hn
          rw [letter_nat] at hl
          unfold nameL
          rw [hall, Bool.and_true, Bool.and_eq_true, decide_eq_true_eq]
          refine ⟨⟨hne, by omega, ?_⟩, by simpa using hkw⟩
          split at hn
          · rename_i h90
            have := (Lex.Got.tok.inj hn).1
            omega
          · rename_i h90
            have := (Lex.Got.tok.inj hn).1
            omega
    · split at hn
      · unfold Lex.numberAt at hn
        simp only [] at hn
        (repeat' split at hn) <;> first | (have := (Lex.Got.tok.inj hn).1; omega) | cases hn
      · unfold Lex.symbolAt at hn
        (repeat' split at hn) <;> first | (have := (Lex.Got.tok.inj hn).1; omega) | cases hn
  · intro h
    unfold nameL at h
    rw [Bool.and_eq_true, Bool.and_eq_true, decide_eq_true_eq] at h
    obtain ⟨⟨⟨hne, h31, h1, h2⟩, hkw⟩, hall⟩ := h
    have hw := takeWhile_all hall
    refine scan_name h31 ?_ ?_ hne
    · rw [letter_nat]; omega
    · unfold Lex.nameAt
      rw [hw]
      simp only []
      rw [if_neg (by omega), if_neg (by simpa using hkw)]
      rcases hk with ⟨rfl, rfl, rfl⟩ | ⟨rfl, rfl, rfl⟩
      · rw [if_neg (by omega)]
      · rw [if_pos (by omega)]
theorem tokB_var (s : ByteArray) : tokB 2 s.data.toList = varB s := tokB_name (.inl ⟨rfl, rfl, rfl⟩) _
theorem tokB_cls (s : ByteArray) : tokB 3 s.data.toList = clsB s := tokB_name (.inr ⟨rfl, rfl, rfl⟩) _
end Tr
end Go.Proofs.YtlgfickhkejdjaaGreatDoor

namespace Go.Proofs.YtlgfickhkejdjaaGreatDoor
open Go.RowKit Go.Deep Go.ChangeShapes

section
variable {H : Type} {enc : TypeId × Value → H} {P : Program} {w : World} {base : Nat} {spare : Nat → Bool} {held : Bool}
/-- a struct of one-cell fields -/
theorem fields_one {t : TypeId} {fs : Array Field} {fuel : Nat} {cs : List Value} {x : DataW H × List MemPlace} (ht : P.underlying t = some (.struct fs)) (hone : oneCellFields P fs = true) (hC : P.cellsOf t = fs.size)
    (h : DataW.trod enc P w base spare held fuel t cs = some x) :
    ∃ n, fuel = n + 1 ∧ cs.length = fs.size ∧ ∀ (j : Nat) (f : Field), fs[j]? = some f → ∃ v y, cs[j]? = some v ∧ DataW.trod enc P w base spare held n f.type [v] = some y := by
  obtain ⟨xs, n, hn, _, hl, hxl, hf⟩ := DataW.trod_struct ht h
  refine ⟨n, hn, hl.trans hC, fun j f hj => ?_⟩
  obtain ⟨ho, hk⟩ := hone_of hone j f hj
  have hjl : j < fs.size := (Array.getElem?_eq_some_iff.1 hj).1
  have h1 := hf j f hj
  have hcl : j < cs.length := by rw [hl, hC]; exact hjl
  rw [ho, hk, take1_drop cs j undef hcl, List.getElem?_eq_getElem (by omega)] at h1
  exact ⟨cs.getD j undef, _, by simp [List.getD, List.getElem?_eq_getElem hcl], h1⟩
theorem elems_of {t e : TypeId} {k fuel : Nat} {cs : List Value} {x : DataW H × List MemPlace} (ht : P.underlying t = some (.slice e)) (hC : P.cellsOf e = k) (h : DataW.trod enc P w base spare held fuel t cs = some x) :
    cs = [.slice none 0 0] ∨ ∃ a len cap n, fuel = n + 1 ∧ cs = [.slice (some a) len cap] ∧ len ≤ cap ∧ cap ≤ maxLen ∧
      ∀ i, i < len → ∃ cs' y, cs'.length = k ∧ (∀ j, j < k → w.cell? (a.add (i * k + j)) = cs'[j]?) ∧ DataW.trod enc P w base spare held n e cs' = some y := by
  rcases DataW.trod_slice ht h with ⟨h0, _⟩ | ⟨a, len, cap, elems, rest, n, hn, hcs, _, hb, hl, hm, hlen, hel, _⟩
  · exact .inl h0
  · refine .inr ⟨a, len, cap, n, hn, hcs, hl, hm, fun i hi => ?_⟩
    have h1 := hel i hi
    rw [List.getElem?_eq_getElem (by omega)] at h1
    obtain ⟨cs', hc, ht'⟩ := Option.bind_eq_some_iff.1 h1
    rw [hC] at hc
    obtain ⟨_, hcl, hat⟩ := World.cells?_some hc
    exact ⟨cs', _, hcl, fun j hj => by rw [← add_add]; exact hat j hj, ht'⟩
theorem add_plain' {w : World} {a : Addr} {v : Value} (h : w.cell? (a.add 0) = some v) : a = ⟨a.block, a.off, none⟩ := by
  have h0 : a.add 0 = a := by simp [Addr.add]
  rw [h0] at h
  obtain ⟨b, o, s⟩ := a
  cases s with
  | none => rfl
  | some s =>
    unfold World.cell? at h
    split at h <;> simp at h
theorem addr_add (b o m : Nat) : (⟨b, o, none⟩ : Addr).add m = ⟨b, o + m, none⟩ := by unfold Addr.add; split <;> simp_all
theorem addr_at {w : World} {a : Addr} {i : Nat} {v : Value} (h : w.cell? (a.add i) = some v) (hi : ∃ u, w.cell? (a.add 0) = some u) : w.cell? ⟨a.block, a.off + i, none⟩ = some v := by
  obtain ⟨u, hu⟩ := hi
  have := add_plain' hu
  rw [this, addr_add] at h
  exact h

/-- the types of the trees, as a program numbers them -/
structure TypesE (P : Program) (tE tsE tInt tI64 tStr tBool : TypeId) : Prop where
  int : P.underlying tInt = some (.int .i64)
  i64 : P.underlying tI64 = some (.int .i64)
  str : P.underlying tStr = some .string
  bool : P.underlying tBool = some .bool
  sl : P.underlying tsE = some (.slice tE)
  st : ∃ fs, P.underlying tE = some (.struct fs) ∧ oneCellFields P fs = true ∧ fs.toList.map (·.type) = [tInt, tInt, tI64, tStr, tBool, tsE]
  size : P.cellsOf tE = 6
structure TypesS (P : Program) (tS tsS tE tsE tInt tI64 tStr tBool : TypeId) : Prop extends TypesE P tE tsE tInt tI64 tStr tBool where
  slS : P.underlying tsS = some (.slice tS)
  stS : ∃ fs, P.underlying tS = some (.struct fs) ∧ oneCellFields P fs = true ∧ fs.toList.map (·.type) = [tInt, tStr, tsE, tsS, tsS]
  sizeS : P.cellsOf tS = 5
structure TypesC (P : Program) (tP tC tsC tM tsM tsStr tS tsS tE tsE tInt tI64 tStr tBool : TypeId) : Prop extends TypesS P tS tsS tE tsE tInt tI64 tStr tBool where
  strs : P.underlying tsStr = some (.slice tStr)
  sizeStr : P.cellsOf tStr = 1
  slM : P.underlying tsM = some (.slice tM)
  stM : ∃ fs, P.underlying tM = some (.struct fs) ∧ oneCellFields P fs = true ∧ fs.toList.map (·.type) = [tStr, tsStr, tsS]
  sizeM : P.cellsOf tM = 3
  slC : P.underlying tsC = some (.slice tC)
  stC : ∃ fs, P.underlying tC = some (.struct fs) ∧ oneCellFields P fs = true ∧ fs.toList.map (·.type) = [tStr, tBool, tsStr, tsM]
  sizeC : P.cellsOf tC = 4
  stP : ∃ fs, P.underlying tP = some (.struct fs) ∧ oneCellFields P fs = true ∧ fs.toList.map (·.type) = [tsC]
  sizeP : P.cellsOf tP = 1

theorem field_of {fs : Array Field} {ts : List TypeId} (h : fs.toList.map (·.type) = ts) {j : Nat} {t : TypeId} (hj : ts[j]? = some t) : ∃ f, fs[j]? = some f ∧ f.type = t := by
  rw [← h, List.getElem?_map] at hj
  obtain ⟨f, hf, e⟩ := Option.map_eq_some_iff.1 hj
  exact ⟨f, by rw [← Array.getElem?_toList]; exact hf, e⟩
theorem i64_of {n : Int} (h : (Lit.int .i64 n).wf = true) : Tr.I64 n := by
  simp only [Lit.wf, Bool.and_eq_true, decide_eq_true_eq] at h
  exact ⟨h.1, h.2⟩
variable {tE tsE tInt tI64 tStr tBool : TypeId}
theorem open_expr_cells (T : TypesE P tE tsE tInt tI64 tStr tBool) {fuel : Nat} {cs : List Value} {x : DataW H × List MemPlace} (h : DataW.trod enc P w base spare held fuel tE cs = some x) :
    ∃ n k o i s b a y, fuel = n + 1 ∧ cs = [.int .i64 k, .int .i64 o, .int .i64 i, .string s, .bool b, a] ∧ Tr.I64 k ∧ Tr.I64 o ∧ Tr.I64 i ∧ s.size ≤ maxLen ∧ DataW.trod enc P w base spare held n tsE [a] = some y := by
  obtain ⟨fs, h1, h2, h3⟩ := T.st
  have hfs : fs.size = 6 := by
    have := congrArg List.length h3
    simpa using this
  obtain ⟨n, hn, hl, hf⟩ := fields_one h1 h2 (by rw [T.size, hfs]) h
  rw [hfs] at hl
  obtain ⟨f0, g0, e0⟩ := field_of h3 (j := 0) rfl
  obtain ⟨f1, g1, e1⟩ := field_of h3 (j := 1) rfl
  obtain ⟨f2, g2, e2⟩ := field_of h3 (j := 2) rfl
  obtain ⟨f3, g3, e3⟩ := field_of h3 (j := 3) rfl
  obtain ⟨f4, g4, e4⟩ := field_of h3 (j := 4) rfl
  obtain ⟨f5, g5, e5⟩ := field_of h3 (j := 5) rfl
  obtain ⟨v0, y0, c0, t0⟩ := hf 0 f0 g0
  obtain ⟨v1, y1, c1, t1⟩ := hf 1 f1 g1
  obtain ⟨v2, y2, c2, t2⟩ := hf 2 f2 g2
  obtain ⟨v3, y3, c3, t3⟩ := hf 3 f3 g3
  obtain ⟨v4, y4, c4, t4⟩ := hf 4 f4 g4
  obtain ⟨v5, y5, c5, t5⟩ := hf 5 f5 g5
  rw [e0] at t0; rw [e1] at t1; rw [e2] at t2; rw [e3] at t3; rw [e4] at t4; rw [e5] at t5
  obtain ⟨k, k1, _, k2⟩ := DataW.trod_int T.int t0
  obtain ⟨o, o1, _, o2⟩ := DataW.trod_int T.int t1
  obtain ⟨i, i1, _, i2⟩ := DataW.trod_int T.i64 t2
  obtain ⟨s, s1, _, s2⟩ := DataW.trod_string T.str t3
  obtain ⟨b, b1, _⟩ := DataW.trod_bool T.bool t4
  cases k1; cases o1; cases i1; cases s1; cases b1
  match cs, hl with
  | [u0, u1, u2, u3, u4, u5], _ =>
    simp at c0 c1 c2 c3 c4 c5
    subst c0 c1 c2 c3 c4 c5
    exact ⟨n, k, o, i, s, b, _, y5, hn, rfl, i64_of k2, i64_of o2, i64_of i2, s2, t5⟩
theorem open_exprs (T : TypesE P tE tsE tInt tI64 tStr tBool) : ∀ (fuel : Nat) {cs : List Value} {x : DataW H × List MemPlace}, DataW.trod enc P w base spare held fuel tsE cs = some x → ∃ v l, cs = [v] ∧ SlE w v l := by
  intro fuel
  induction fuel using Nat.strongRecOn with
  | ind fuel ih =>
    intro cs x h
    rcases elems_of T.sl T.size h with rfl | ⟨a, len, cap, n, rfl, rfl, hl, hm, hel⟩
    · exact ⟨_, [], rfl, .nil _ _⟩
    · have key : ∀ i, i < len → ∃ (z : Tr.E × Value), CellsE w a.block (a.off + i * 6) z.1 z.2 ∧ BdE z.1 ∧ SlE w z.2 z.1.args := by
        intro i hi
        obtain ⟨cs', y, hcl, hat, ht⟩ := hel i hi
        obtain ⟨n2, k, o, i2, s, b, v, y2, hn2, rfl, w1, w2, w3, w4, ht2⟩ := open_expr_cells T ht
        obtain ⟨v', l, hv, hs⟩ := ih n2 (by omega) ht2
        cases hv
        obtain ⟨cs0, y0, hcl0, hat0, _⟩ := hel 0 (by omega)
        have hz : ∃ u, w.cell? (a.add 0) = some u := by
          have := hat0 0 (by omega)
          rw [Nat.zero_mul, Nat.zero_add, List.getElem?_eq_getElem (by omega)] at this
          exact ⟨_, this⟩
        have at_ : ∀ j u, j < 6 → ([Value.int .i64 k, .int .i64 o, .int .i64 i2, .string s, .bool b, v] : List Value)[j]? = some u → w.cell? ⟨a.block, a.off + i * 6 + j, none⟩ = some u := by
          intro j u hj hu
          have := addr_at ((hat j hj).trans hu) hz
          rw [← Nat.add_assoc] at this
          exact this
        exact ⟨(.mk k o i2 s b l, v), ⟨at_ 0 _ (by omega) rfl, at_ 1 _ (by omega) rfl, at_ 2 _ (by omega) rfl, at_ 3 _ (by omega) rfl, at_ 4 _ (by omega) rfl, at_ 5 _ (by omega) rfl⟩, ⟨w1, w2, w3, w4⟩, hs⟩
      haveI : Inhabited (Tr.E × Value) := ⟨(.mk 0 0 0 ⟨#[]⟩ false [], undef)⟩
      obtain ⟨F, hF⟩ := choose_lt key
      by_cases h0 : len = 0
      · subst h0; exact ⟨_, [], rfl, .nil _ _⟩
      · obtain ⟨cs0, y0, hcl0, hat0, _⟩ := hel 0 (by omega)
        have hz := hat0 0 (by omega)
        rw [Nat.zero_mul, Nat.zero_add, List.getElem?_eq_getElem (by omega)] at hz
        have ha := add_plain' hz
        have hgl : ∀ j e, ((List.range len).map fun i => (F i).1)[j]? = some e → j < len ∧ e = (F j).1 := by
          intro j e hj
          have hlt : j < len := by
            have := (List.getElem?_eq_some_iff.1 hj).1
            simpa using this
          rw [List.getElem?_map, List.getElem?_range hlt] at hj
          exact ⟨hlt, by cases hj; rfl⟩
        have hlen : ((List.range len).map fun i => (F i).1).length = len := by simp
        refine ⟨.slice (some a) len cap, (List.range len).map fun i => (F i).1, rfl, ?_⟩
        have := SlE.row (w := w) a.block a.off cap ((List.range len).map fun i => (F i).1) (fun i => (F i).2) (by omega) hm
          (fun j e hj => by obtain ⟨h1, rfl⟩ := hgl j e hj; exact ⟨(hF j h1).1, (hF j h1).2.1⟩) (fun j e hj => by obtain ⟨h1, rfl⟩ := hgl j e hj; exact (hF j h1).2.2)
        rw [hlen, ← ha] at this
        exact this
variable {tS tsS : TypeId}
theorem open_stmt_cells (T : TypesS P tS tsS tE tsE tInt tI64 tStr tBool) {fuel : Nat} {cs : List Value} {x : DataW H × List MemPlace} (h : DataW.trod enc P w base spare held fuel tS cs = some x) :
    ∃ n k s a b c y1 y2 y3, fuel = n + 1 ∧ cs = [.int .i64 k, .string s, a, b, c] ∧ Tr.I64 k ∧ s.size ≤ maxLen ∧ DataW.trod enc P w base spare held n tsE [a] = some y1 ∧ DataW.trod enc P w base spare held n tsS [b] = some y2 ∧ DataW.trod enc P w base spare held n tsS [c] = some y3 := by
  obtain ⟨fs, h1, h2, h3⟩ := T.stS
  have hfs : fs.size = 5 := by
    have := congrArg List.length h3
    simpa using this
  obtain ⟨n, hn, hl, hf⟩ := fields_one h1 h2 (by rw [T.sizeS, hfs]) h
  rw [hfs] at hl
  obtain ⟨f0, g0, e0⟩ := field_of h3 (j := 0) rfl
  obtain ⟨f1, g1, e1⟩ := field_of h3 (j := 1) rfl
  obtain ⟨f2, g2, e2⟩ := field_of h3 (j := 2) rfl
  obtain ⟨f3, g3, e3⟩ := field_of h3 (j := 3) rfl
  obtain ⟨f4, g4, e4⟩ := field_of h3 (j := 4) rfl
  obtain ⟨v0, y0, c0, t0⟩ := hf 0 f0 g0
  obtain ⟨v1, y1, c1, t1⟩ := hf 1 f1 g1
  obtain ⟨v2, y2, c2, t2⟩ := hf 2 f2 g2
  obtain ⟨v3, y3, c3, t3⟩ := hf 3 f3 g3
  obtain ⟨v4, y4, c4, t4⟩ := hf 4 f4 g4
  rw [e0] at t0; rw [e1] at t1; rw [e2] at t2; rw [e3] at t3; rw [e4] at t4
  obtain ⟨k, k1, _, k2⟩ := DataW.trod_int T.int t0
  obtain ⟨s, s1, _, s2⟩ := DataW.trod_string T.str t1
  cases k1; cases s1
  match cs, hl with
  | [u0, u1, u2, u3, u4], _ =>
    simp at c0 c1 c2 c3 c4
    subst c0 c1 c2 c3 c4
    exact ⟨n, k, s, _, _, _, y2, y3, y4, hn, rfl, i64_of k2, s2, t2, t3, t4⟩
theorem open_stmts (T : TypesS P tS tsS tE tsE tInt tI64 tStr tBool) : ∀ (fuel : Nat) {cs : List Value} {x : DataW H × List MemPlace}, DataW.trod enc P w base spare held fuel tsS cs = some x → ∃ v l, cs = [v] ∧ SlS w v l := by
  intro fuel
  induction fuel using Nat.strongRecOn with
  | ind fuel ih =>
    intro cs x h
    rcases elems_of T.slS T.sizeS h with rfl | ⟨a, len, cap, n, rfl, rfl, hl, hm, hel⟩
    · exact ⟨_, [], rfl, .nil _ _⟩
    · have key : ∀ i, i < len → ∃ (z : Tr.S × Value × Value × Value), CellsS w a.block (a.off + i * 5) z.1 z.2.1 z.2.2.1 z.2.2.2 ∧ BdS z.1 ∧ SlE w z.2.1 z.1.exprs ∧ SlS w z.2.2.1 z.1.body ∧ SlS w z.2.2.2 z.1.els := by
        intro i hi
        obtain ⟨cs', y, hcl, hat, ht⟩ := hel i hi
        obtain ⟨n2, k, s, v1, v2, v3, y1, y2, y3, hn2, rfl, w1, w4, ht1, ht2, ht3⟩ := open_stmt_cells T ht
        obtain ⟨u1, l1, hv1, hs1⟩ := open_exprs T.toTypesE n2 ht1
        obtain ⟨u2, l2, hv2, hs2⟩ := ih n2 (by omega) ht2
        obtain ⟨u3, l3, hv3, hs3⟩ := ih n2 (by omega) ht3
        cases hv1; cases hv2; cases hv3
        obtain ⟨cs0, y0, hcl0, hat0, _⟩ := hel 0 (by omega)
        have hz : ∃ u, w.cell? (a.add 0) = some u := by
          have := hat0 0 (by omega)
          rw [Nat.zero_mul, Nat.zero_add, List.getElem?_eq_getElem (by omega)] at this
          exact ⟨_, this⟩
        have at_ : ∀ j u, j < 5 → ([Value.int .i64 k, .string s, v1, v2, v3] : List Value)[j]? = some u → w.cell? ⟨a.block, a.off + i * 5 + j, none⟩ = some u := by
          intro j u hj hu
          have := addr_at ((hat j hj).trans hu) hz
          rw [← Nat.add_assoc] at this
          exact this
        exact ⟨(.mk k s l1 l2 l3, v1, v2, v3), ⟨at_ 0 _ (by omega) rfl, at_ 1 _ (by omega) rfl, at_ 2 _ (by omega) rfl, at_ 3 _ (by omega) rfl, at_ 4 _ (by omega) rfl⟩, ⟨w1, w4⟩, hs1, hs2, hs3⟩
      haveI : Inhabited (Tr.S × Value × Value × Value) := ⟨(.mk 0 ⟨#[]⟩ [] [] [], undef, undef, undef)⟩
      obtain ⟨F, hF⟩ := choose_lt key
      by_cases h0 : len = 0
      · subst h0; exact ⟨_, [], rfl, .nil _ _⟩
      · obtain ⟨cs0, y0, hcl0, hat0, _⟩ := hel 0 (by omega)
        have hz := hat0 0 (by omega)
        rw [Nat.zero_mul, Nat.zero_add, List.getElem?_eq_getElem (by omega)] at hz
        have ha := add_plain' hz
        have hgl : ∀ j e, ((List.range len).map fun i => (F i).1)[j]? = some e → j < len ∧ e = (F j).1 := by
          intro j e hj
          have hlt : j < len := by
            have := (List.getElem?_eq_some_iff.1 hj).1
            simpa using this
          rw [List.getElem?_map, List.getElem?_range hlt] at hj
          exact ⟨hlt, by cases hj; rfl⟩
        have hlen : ((List.range len).map fun i => (F i).1).length = len := by simp
        refine ⟨.slice (some a) len cap, (List.range len).map fun i => (F i).1, rfl, ?_⟩
        have := SlS.row (w := w) a.block a.off cap ((List.range len).map fun i => (F i).1) (fun i => (F i).2.1) (fun i => (F i).2.2.1) (fun i => (F i).2.2.2) (by omega) hm
          (fun j e hj => by obtain ⟨h1, rfl⟩ := hgl j e hj; exact ⟨(hF j h1).1, (hF j h1).2.1⟩) (fun j e hj => by obtain ⟨h1, rfl⟩ := hgl j e hj; exact (hF j h1).2.2.1)
          (fun j e hj => by obtain ⟨h1, rfl⟩ := hgl j e hj; exact (hF j h1).2.2.2.1) (fun j e hj => by obtain ⟨h1, rfl⟩ := hgl j e hj; exact (hF j h1).2.2.2.2)
        rw [hlen, ← ha] at this
        exact this
/-- rows of whatever: from each element to the row -/
theorem row_of {α : Type} [Inhabited α] {k len : Nat} {a : Addr} {R : Nat → Nat → α → Prop} (hk : 0 < k) (hel : ∀ i, i < len → ∃ cs' : List Value, cs'.length = k ∧ (∀ j, j < k → w.cell? (a.add (i * k + j)) = cs'[j]?) ∧
      ∃ z : α, ∀ b o, (∀ j u, j < k → cs'[j]? = some u → w.cell? ⟨b, o + i * k + j, none⟩ = some u) → R b (o + i * k) z) :
    ∃ F : List α, F.length = len ∧ ∀ j z, F[j]? = some z → a = ⟨a.block, a.off, none⟩ ∧ a.block < w.heap.size ∧ R a.block (a.off + j * k) z := by
  have key : ∀ i, i < len → ∃ z : α, a = ⟨a.block, a.off, none⟩ ∧ a.block < w.heap.size ∧ R a.block (a.off + i * k) z := by
    intro i hi
    obtain ⟨cs0, hcl0, hat0, _⟩ := hel 0 (by omega)
    have hz := hat0 0 (by omega)
    rw [Nat.zero_mul, Nat.zero_add, List.getElem?_eq_getElem (by omega)] at hz
    have ha := add_plain' hz
    obtain ⟨cs', hcl, hat, z, hR⟩ := hel i hi
    refine ⟨z, ha, ?_, hR a.block a.off fun j u hj hu => ?_⟩
    · have := addr_at hz ⟨_, hz⟩; exact cell_lt' this
    · have := addr_at ((hat j hj).trans hu) ⟨_, hz⟩
      rw [← Nat.add_assoc] at this
      exact this
  obtain ⟨F, hF⟩ := choose_lt key
  refine ⟨(List.range len).map F, by simp, fun j z hj => ?_⟩
  have hlt : j < len := by
    have := (List.getElem?_eq_some_iff.1 hj).1
    simpa using this
  rw [List.getElem?_map, List.getElem?_range hlt] at hj
  cases hj
  exact hF j hlt
variable {tP tC tsC tM tsM tsStr : TypeId}
theorem open_strs' (hs : P.underlying tsStr = some (.slice tStr)) (hc : P.cellsOf tStr = 1) (ht : P.underlying tStr = some .string) {fuel : Nat} {cs : List Value} {x : DataW H × List MemPlace} (h : DataW.trod enc P w base spare held fuel tsStr cs = some x) : ∃ v l, cs = [v] ∧ SlStr w v l := by
  rcases elems_of hs hc h with rfl | ⟨a, len, cap, n, rfl, rfl, hl, hm, hel⟩
  · exact ⟨_, [], rfl, _, _, rfl, Nat.zero_le _, fun h => absurd rfl h, fun j s hj => by simp at hj⟩
  · haveI : Inhabited ByteArray := ⟨⟨#[]⟩⟩
    obtain ⟨F, hF, hr⟩ := row_of (w := w) (a := a) (len := len) (k := 1) (R := fun b o s => s.size ≤ maxLen ∧ w.cell? ⟨b, o, none⟩ = some (.string s)) (by omega) (fun i hi => by
      obtain ⟨cs', y, hcl, hat, ht'⟩ := hel i hi
      obtain ⟨s, rfl, _, hsz⟩ := DataW.trod_string ht ht'
      exact ⟨_, hcl, hat, s, fun b o hc => ⟨hsz, hc 0 _ (by omega) rfl⟩⟩)
    refine ⟨_, F, rfl, some a, cap, by rw [hF], by omega, fun _ => ⟨by omega, hm⟩, fun j s hj => ?_⟩
    obtain ⟨h1, h2, h3, h4⟩ := hr j s hj
    rw [Nat.mul_one] at h4
    exact ⟨h3, _, _, by rw [h1], h2, h4⟩
theorem open_methods (T : TypesC P tP tC tsC tM tsM tsStr tS tsS tE tsE tInt tI64 tStr tBool) {fuel : Nat} {cs : List Value} {x : DataW H × List MemPlace} (h : DataW.trod enc P w base spare held fuel tsM cs = some x) : ∃ v l, cs = [v] ∧ SlM w v l := by
  rcases elems_of T.slM T.sizeM h with rfl | ⟨a, len, cap, n, rfl, rfl, hl, hm, hel⟩
  · exact ⟨_, [], rfl, _, _, rfl, Nat.zero_le _, fun h => absurd rfl h, fun j s hj => by simp at hj⟩
  · haveI : Inhabited Tr.M := ⟨⟨⟨#[]⟩, [], []⟩⟩
    obtain ⟨F, hF, hr⟩ := row_of (w := w) (a := a) (len := len) (k := 3) (R := fun b o m => m.name.size ≤ maxLen ∧ ∃ x y, CellsM w b o m x y ∧ SlStr w x m.params ∧ SlS w y m.body) (by omega) (fun i hi => by
      obtain ⟨cs', y, hcl, hat, ht'⟩ := hel i hi
      obtain ⟨fs, h1, h2, h3⟩ := T.stM
      have hfs : fs.size = 3 := by have := congrArg List.length h3; simpa using this
      obtain ⟨n2, hn, hl2, hf⟩ := fields_one h1 h2 (by rw [T.sizeM, hfs]) ht'
      obtain ⟨f0, g0, e0⟩ := field_of h3 (j := 0) rfl
      obtain ⟨f1, g1, e1⟩ := field_of h3 (j := 1) rfl
      obtain ⟨f2, g2, e2⟩ := field_of h3 (j := 2) rfl
      obtain ⟨v0, y0, c0, t0⟩ := hf 0 f0 g0
      obtain ⟨v1, y1, c1, t1⟩ := hf 1 f1 g1
      obtain ⟨v2, y2, c2, t2⟩ := hf 2 f2 g2
      rw [e0] at t0; rw [e1] at t1; rw [e2] at t2
      obtain ⟨s, s1, _, s2⟩ := DataW.trod_string T.str t0
      obtain ⟨u1, l1, hv1, hs1⟩ := open_strs' T.strs T.sizeStr T.str t1
      obtain ⟨u2, l2, hv2, hs2⟩ := open_stmts T.toTypesS _ t2
      cases s1; cases hv1; cases hv2
      exact ⟨cs', hcl, hat, ⟨s, l1, l2⟩, fun b o hc => ⟨s2, _, _, ⟨hc 0 _ (by omega) c0, hc 1 _ (by omega) c1, hc 2 _ (by omega) c2⟩, hs1, hs2⟩⟩)
    refine ⟨_, F, rfl, some a, cap, by rw [hF], by omega, fun _ => ⟨by omega, hm⟩, fun j s hj => ?_⟩
    obtain ⟨h1, h2, h3, x, y, h4⟩ := hr j s hj
    exact ⟨h3, _, _, x, y, by rw [h1], h2, h4⟩
theorem open_classes (T : TypesC P tP tC tsC tM tsM tsStr tS tsS tE tsE tInt tI64 tStr tBool) {fuel : Nat} {cs : List Value} {x : DataW H × List MemPlace} (h : DataW.trod enc P w base spare held fuel tsC cs = some x) : ∃ v l, cs = [v] ∧ SlC w v l := by
  rcases elems_of T.slC T.sizeC h with rfl | ⟨a, len, cap, n, rfl, rfl, hl, hm, hel⟩
  · exact ⟨_, [], rfl, _, _, rfl, Nat.zero_le _, fun h => absurd rfl h, fun j s hj => by simp at hj⟩
  · haveI : Inhabited Tr.C := ⟨⟨⟨#[]⟩, false, [], []⟩⟩
    obtain ⟨F, hF, hr⟩ := row_of (w := w) (a := a) (len := len) (k := 4) (R := fun b o m => m.name.size ≤ maxLen ∧ ∃ x y, CellsC w b o m x y ∧ SlStr w x m.fields ∧ SlM w y m.methods) (by omega) (fun i hi => by
      obtain ⟨cs', y, hcl, hat, ht'⟩ := hel i hi
      obtain ⟨fs, h1, h2, h3⟩ := T.stC
      have hfs : fs.size = 4 := by have := congrArg List.length h3; simpa using this
      obtain ⟨n2, hn, hl2, hf⟩ := fields_one h1 h2 (by rw [T.sizeC, hfs]) ht'
      obtain ⟨f0, g0, e0⟩ := field_of h3 (j := 0) rfl
      obtain ⟨f1, g1, e1⟩ := field_of h3 (j := 1) rfl
      obtain ⟨f2, g2, e2⟩ := field_of h3 (j := 2) rfl
      obtain ⟨f3, g3, e3⟩ := field_of h3 (j := 3) rfl
      obtain ⟨v0, y0, c0, t0⟩ := hf 0 f0 g0
      obtain ⟨v1, y1, c1, t1⟩ := hf 1 f1 g1
      obtain ⟨v2, y2, c2, t2⟩ := hf 2 f2 g2
      obtain ⟨v3, y3, c3, t3⟩ := hf 3 f3 g3
      rw [e0] at t0; rw [e1] at t1; rw [e2] at t2; rw [e3] at t3
      obtain ⟨s, s1, _, s2⟩ := DataW.trod_string T.str t0
      obtain ⟨bb, b1, _⟩ := DataW.trod_bool T.bool t1
      obtain ⟨u1, l1, hv1, hs1⟩ := open_strs' T.strs T.sizeStr T.str t2
      obtain ⟨u2, l2, hv2, hs2⟩ := open_methods T t3
      cases s1; cases b1; cases hv1; cases hv2
      exact ⟨cs', hcl, hat, ⟨s, bb, l1, l2⟩, fun b o hc => ⟨s2, _, _, ⟨hc 0 _ (by omega) c0, hc 1 _ (by omega) c1, hc 2 _ (by omega) c2, hc 3 _ (by omega) c3⟩, hs1, hs2⟩⟩)
    refine ⟨_, F, rfl, some a, cap, by rw [hF], by omega, fun _ => ⟨by omega, hm⟩, fun j s hj => ?_⟩
    obtain ⟨h1, h2, h3, x, y, h4⟩ := hr j s hj
    exact ⟨h3, _, _, x, y, by rw [h1], h2, h4⟩
end
end Go.Proofs.YtlgfickhkejdjaaGreatDoor

namespace Go.Proofs.YtlgfickhkejdjaaGreatDoor
open Go.RowKit Go.WideShapes Go.ChangeShapes

section
variable {H : Type} {enc : TypeId × Value → H} {P : Program}
theorem trodAll_stays (hl : laidOutB P = true) {W W' : World} {sp : Nat → Bool} : ∀ {ts : List TypeId} {vs : List Value} {ds : List (DataW H)} {ps : List MemPlace}, (∀ t ∈ ts, P.readableRec t = true ∧ t < P.types.size) →
    DataW.TrodAll enc P W 0 (fun _ => true) true ts vs ds ps → (∀ p ∈ ps, W.sameAt W' p) → (∀ p ∈ ps, sp p.block = true) → DataW.TrodAll enc P W' 0 sp true ts vs ds ps
  | [], [], [], ps, _, h, _, _ => h
  | t :: ts, v :: vs, d :: ds, ps, hr, h, hsame, hs => by
    obtain ⟨p, q, h1, h2, rfl⟩ := h
    obtain ⟨r1, r2⟩ := hr t (by simp)
    exact ⟨p, q, WideElems.Trod_stays hl r1 r2 h1 (fun x hx => hsame x (by simp [hx])) (fun x hx => hs x (by simp [hx])),
      trodAll_stays hl (fun t ht => hr t (by simp [ht])) h2 (fun x hx => hsame x (by simp [hx])) (fun x hx => hs x (by simp [hx])), rfl⟩
  | [], [], _ :: _, _, _, h, _, _ => h.elim
  | [], _ :: _, _, _, _, h, _, _ => h.elim
  | _ :: _, [], _, _, _, h, _, _ => h.elim
  | _ :: _, _ :: _, [], _, _, h, _, _ => h.elim
/-- The row's last step, of a call that has turned nothing that was there, where the specification hands the arguments back as they were. -/
theorem post_all (hl : laidOutB P = true) {f : Func} {s : ChangeSpec} {apart fresh handsOn again : Bool} {W W' : World} {args : Array Value} {v : Value} {ds gs : List (DataW H)} {before : List MemPlace}
    (hW : DataW.Whole enc P f.params.toList s.vars apart W args.toList ds gs before) (hv : s.vars = []) (hr : ∀ t ∈ f.params.toList, P.readableRec t = true ∧ t < P.types.size) (hb : Below W.heap.size W W')
    (hres : ∀ (b : Nat) (sp : Nat → Bool) (hd : Bool), DataW.TrodAll enc P W' b sp hd f.resultTypes.toList (v.resultList f.resultTypes.size) (s.fn H (ds ++ gs)).results [])
    (hsa : (s.fn H (ds ++ gs)).args = ds) (hsv : (s.fn H (ds ++ gs)).vars = [])
    (hok : ∀ (j : Nat) (t : TypeId) (r : Value), f.resultTypes[j]? = some t → (v.resultList f.resultTypes.size)[j]? = some r → Value.okWide P W' .any 0 t r) :
    s.post enc P f apart fresh handsOn again W args v W' := by
  have hW0 := hW
  obtain ⟨p, q, hA, hV, hpq, hz, hn⟩ := hW
  have hlt : ∀ x ∈ before, x.block < W.heap.size := fun x hx => hW0.lt x hx
  obtain ⟨rfl, hq⟩ : before = p ∧ q = [] := by
    rw [hv] at hV
    cases gs with
    | nil => exact ⟨by rw [hpq, show q = [] from hV]; simp, hV⟩
    | cons => exact hV.elim
  have hargs : ∀ sp : Nat → Bool, (∀ x ∈ before, sp x.block = true) → DataW.TrodAll enc P W' 0 sp true f.params.toList args.toList (s.fn H (ds ++ gs)).args before := fun sp hsp => by
    rw [hsa]
    exact trodAll_stays hl hr hA (fun x hx => hb.same (hlt x hx)) hsp
  have hvars : ∀ sp : Nat → Bool, DataW.TrodVars enc P W' sp s.vars (s.fn H (ds ++ gs)).vars [] := fun sp => by rw [hv, hsv]; rfl
  have old : ∀ x ∈ before, decide (x.block < W.heap.size) = true := fun x hx => decide_eq_true (hlt x hx)
  refine ⟨ds, gs, before, [], before, [], hW0, hres _ _ _, hargs (fun b => decide (b < W.heap.size)) old, hvars _, World.keptBut_mono (fun x hx => ⟨hx, .inr (by simpa using hx)⟩) (hb.frame (· ∈ before)), fun _ => ⟨hok, ?_⟩⟩
  refine ⟨_, _, ([] ++ before) ++ [], ⟨[] ++ before, [], trodAll_append (hargs _ (fun _ _ => rfl)) (hres _ _ _), hvars _, rfl, fun b off hp => ?_, fun ha => ?_⟩, fun x hx _ => by simpa using hx⟩
  · have hin : MemPlace.cell b off ∈ before := by simpa using hp
    rw [hb.frozen (of_decide_eq_true (old _ hin))]
    exact hz b off (by simpa using hin)
  · simpa using hn ha
end
end Go.Proofs.YtlgfickhkejdjaaGreatDoor
