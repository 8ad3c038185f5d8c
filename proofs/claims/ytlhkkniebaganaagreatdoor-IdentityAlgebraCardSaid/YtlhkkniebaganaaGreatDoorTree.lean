/-
  Trees of the language in memory: how a slice reads as a list of expressions, statements, methods, classes, strings; kept by Below.
-/
import Derived.Below
import Derived.Deep.Slices
import Derived.Deep.Fields
import Derived.ChangeSame
namespace Go.Proofs.YtlhkkniebaganaaGreatDoor
open Go.RowKit

namespace Tr
inductive E where
  | mk (kind op int : Int) (name : ByteArray) (at_ : Bool) (args : List E)
def E.kind : E → Int | .mk k _ _ _ _ _ => k
def E.op : E → Int | .mk _ o _ _ _ _ => o
def E.int : E → Int | .mk _ _ i _ _ _ => i
def E.name : E → ByteArray | .mk _ _ _ n _ _ => n
def E.at_ : E → Bool | .mk _ _ _ _ a _ => a
def E.args : E → List E | .mk _ _ _ _ _ l => l
inductive S where
  | mk (kind : Int) (name : ByteArray) (exprs : List E) (body els : List S)
def S.kind : S → Int | .mk k _ _ _ _ => k
def S.name : S → ByteArray | .mk _ n _ _ _ => n
def S.exprs : S → List E | .mk _ _ x _ _ => x
def S.body : S → List S | .mk _ _ _ b _ => b
def S.els : S → List S | .mk _ _ _ _ b => b
structure M where
  name : ByteArray
  params : List ByteArray
  body : List S
structure C where
  name : ByteArray
  actor : Bool
  fields : List ByteArray
  methods : List M
def I64 (n : Int) : Prop := -9223372036854775808 ≤ n ∧ n ≤ 9223372036854775807
/-- how deep a tree is -/
def E.deep : E → Nat
  | .mk _ _ _ _ _ args => 1 + deeps args
where deeps : List E → Nat
  | [] => 0
  | e :: r => max (E.deep e) (deeps r)
def S.deep : S → Nat
  | .mk _ _ _ body els => 1 + max (deeps body) (deeps els)
where deeps : List S → Nat
  | [] => 0
  | e :: r => max (S.deep e) (deeps r)
theorem E.deeps_get : ∀ (l : List E) (j : Nat) (e : E), l[j]? = some e → E.deep e ≤ E.deep.deeps l
  | [], j, e, h => by simp at h
  | x :: r, 0, e, h => by cases h; unfold E.deep.deeps; exact Nat.le_max_left _ _
  | x :: r, j + 1, e, h => by
    unfold E.deep.deeps
    exact Nat.le_trans (E.deeps_get r j e (by simpa using h)) (Nat.le_max_right _ _)
theorem S.deeps_get : ∀ (l : List S) (j : Nat) (e : S), l[j]? = some e → S.deep e ≤ S.deep.deeps l
  | [], j, e, h => by simp at h
  | x :: r, 0, e, h => by cases h; unfold S.deep.deeps; exact Nat.le_max_left _ _
  | x :: r, j + 1, e, h => by
    unfold S.deep.deeps
    exact Nat.le_trans (S.deeps_get r j e (by simpa using h)) (Nat.le_max_right _ _)
theorem E.deep_args {e : E} {n : Nat} (h : e.deep ≤ n + 1) {j : Nat} {x : E} (hj : e.args[j]? = some x) : x.deep ≤ n := by
  cases e with
  | mk k o i nm a l =>
    unfold E.deep at h
    have := E.deeps_get l j x hj
    omega
theorem S.deep_body {s : S} {n : Nat} (h : s.deep ≤ n + 1) : S.deep.deeps s.body ≤ n := by
  cases s with
  | mk k nm x b l =>
    unfold S.deep at h
    show S.deep.deeps b ≤ n
    have := Nat.le_max_left (S.deep.deeps b) (S.deep.deeps l)
    omega
theorem S.deep_els {s : S} {n : Nat} (h : s.deep ≤ n + 1) : S.deep.deeps s.els ≤ n := by
  cases s with
  | mk k nm x b l =>
    unfold S.deep at h
    show S.deep.deeps l ≤ n
    have := Nat.le_max_right (S.deep.deeps b) (S.deep.deeps l)
    omega
end Tr

/-- what an expression's own cells are, but for its arguments -/
structure BdE (e : Tr.E) : Prop where
  kind : Tr.I64 e.kind
  op : Tr.I64 e.op
  int : Tr.I64 e.int
  name : e.name.size ≤ maxLen
structure BdS (s : Tr.S) : Prop where
  kind : Tr.I64 s.kind
  name : s.name.size ≤ maxLen
/-- the six cells of an expression at offset o of block b -/
def CellsE (w : World) (b o : Nat) (e : Tr.E) (a : Value) : Prop :=
  w.cell? ⟨b, o, none⟩ = some (.int .i64 e.kind) ∧ w.cell? ⟨b, o + 1, none⟩ = some (.int .i64 e.op) ∧ w.cell? ⟨b, o + 2, none⟩ = some (.int .i64 e.int) ∧
  w.cell? ⟨b, o + 3, none⟩ = some (.string e.name) ∧ w.cell? ⟨b, o + 4, none⟩ = some (.bool e.at_) ∧ w.cell? ⟨b, o + 5, none⟩ = some a
def CellsS (w : World) (b o : Nat) (s : Tr.S) (x y z : Value) : Prop :=
  w.cell? ⟨b, o, none⟩ = some (.int .i64 s.kind) ∧ w.cell? ⟨b, o + 1, none⟩ = some (.string s.name) ∧
  w.cell? ⟨b, o + 2, none⟩ = some x ∧ w.cell? ⟨b, o + 3, none⟩ = some y ∧ w.cell? ⟨b, o + 4, none⟩ = some z
/-- the slice value reads as the list of expressions -/
inductive SlE (w : World) : Value → List Tr.E → Prop
  | nil (p : Option Addr) (c : Nat) : SlE w (.slice p 0 c) []
  | row (b o c : Nat) (l : List Tr.E) (A : Nat → Value) (hn : l.length ≤ c) (hm : c ≤ maxLen) (hc : ∀ j e, l[j]? = some e → CellsE w b (o + j * 6) e (A j) ∧ BdE e)
      (ha : ∀ j e, l[j]? = some e → SlE w (A j) e.args) : SlE w (.slice (some ⟨b, o, none⟩) l.length c) l
inductive SlS (w : World) : Value → List Tr.S → Prop
  | nil (p : Option Addr) (c : Nat) : SlS w (.slice p 0 c) []
  | row (b o c : Nat) (l : List Tr.S) (X Y Z : Nat → Value) (hn : l.length ≤ c) (hm : c ≤ maxLen) (hc : ∀ j s, l[j]? = some s → CellsS w b (o + j * 5) s (X j) (Y j) (Z j) ∧ BdS s)
      (hx : ∀ j s, l[j]? = some s → SlE w (X j) s.exprs) (hy : ∀ j s, l[j]? = some s → SlS w (Y j) s.body) (hz : ∀ j s, l[j]? = some s → SlS w (Z j) s.els) : SlS w (.slice (some ⟨b, o, none⟩) l.length c) l

theorem cell_lt' {w : World} {b o : Nat} {v : Value} (h : w.cell? ⟨b, o, none⟩ = some v) : b < w.heap.size := by
  rcases Nat.lt_or_ge b w.heap.size with hlt | hge
  · exact hlt
  · unfold World.cell? at h
    rw [Array.getElem?_eq_none hge] at h
    cases h
theorem cell_keep' {w w' : World} {b o : Nat} {v : Value} (hb : Below w.heap.size w w') (h : w.cell? ⟨b, o, none⟩ = some v) : w'.cell? ⟨b, o, none⟩ = some v :=
  (hb.cell (cell_lt' h)).trans h
theorem CellsE.keep {w w' : World} {b o : Nat} {e : Tr.E} {a : Value} (h : CellsE w b o e a) (hb : Below w.heap.size w w') : CellsE w' b o e a :=
  ⟨cell_keep' hb h.1, cell_keep' hb h.2.1, cell_keep' hb h.2.2.1, cell_keep' hb h.2.2.2.1, cell_keep' hb h.2.2.2.2.1, cell_keep' hb h.2.2.2.2.2⟩
theorem CellsS.keep {w w' : World} {b o : Nat} {e : Tr.S} {x y z : Value} (h : CellsS w b o e x y z) (hb : Below w.heap.size w w') : CellsS w' b o e x y z :=
  ⟨cell_keep' hb h.1, cell_keep' hb h.2.1, cell_keep' hb h.2.2.1, cell_keep' hb h.2.2.2.1, cell_keep' hb h.2.2.2.2⟩
theorem SlE.keep {w w' : World} {v : Value} {l : List Tr.E} (h : SlE w v l) (hb : Below w.heap.size w w') : SlE w' v l := by
  induction h with
  | nil p c => exact .nil p c
  | row b o c l A hn hm hc ha ih => exact .row b o c l A hn hm (fun j e hj => ⟨(hc j e hj).1.keep hb, (hc j e hj).2⟩) (fun j e hj => ih j e hj)
theorem SlS.keep {w w' : World} {v : Value} {l : List Tr.S} (h : SlS w v l) (hb : Below w.heap.size w w') : SlS w' v l := by
  induction h with
  | nil p c => exact .nil p c
  | row b o c l X Y Z hn hm hc hx hy hz ih1 ih2 => exact .row b o c l X Y Z hn hm (fun j e hj => ⟨(hc j e hj).1.keep hb, (hc j e hj).2⟩) (fun j e hj => (hx j e hj).keep hb) (fun j e hj => ih1 j e hj) (fun j e hj => ih2 j e hj)
theorem SlE.form {w : World} {v : Value} {l : List Tr.E} (h : SlE w v l) : ∃ p c, v = .slice p l.length c ∧ (l ≠ [] → l.length ≤ c ∧ c ≤ maxLen) := by
  cases h with
  | nil p c => exact ⟨p, c, rfl, fun h => absurd rfl h⟩
  | row b o c l A hn hm hc ha => exact ⟨_, c, rfl, fun _ => ⟨hn, hm⟩⟩
theorem SlS.form {w : World} {v : Value} {l : List Tr.S} (h : SlS w v l) : ∃ p c, v = .slice p l.length c ∧ (l ≠ [] → l.length ≤ c ∧ c ≤ maxLen) := by
  cases h with
  | nil p c => exact ⟨p, c, rfl, fun h => absurd rfl h⟩
  | row b o c l X Y Z hn hm hc hx hy hz => exact ⟨_, c, rfl, fun _ => ⟨hn, hm⟩⟩
theorem SlE.len {w : World} {v : Value} {l : List Tr.E} (h : SlE w v l) : l.length ≤ maxLen := by
  cases h with
  | nil p c => exact Nat.zero_le _
  | row b o c l A hn hm hc ha => omega
theorem SlS.len {w : World} {v : Value} {l : List Tr.S} (h : SlS w v l) : l.length ≤ maxLen := by
  cases h with
  | nil p c => exact Nat.zero_le _
  | row b o c l X Y Z hn hm hc hx hy hz => omega
/-- element j: where it lies, its cells, its arguments -/
theorem SlE.get {w : World} {p : Option Addr} {n c : Nat} {l : List Tr.E} (h : SlE w (.slice p n c) l) {j : Nat} {e : Tr.E} (hj : l[j]? = some e) :
    ∃ b o a, p = some ⟨b, o, none⟩ ∧ b < w.heap.size ∧ CellsE w b (o + j * 6) e a ∧ BdE e ∧ SlE w a e.args := by
  generalize hv : (Value.slice p n c) = v at h
  cases h with
  | nil p c => simp at hj
  | row b o c l A hn hm hc ha => cases hv; exact ⟨b, o, A j, rfl, cell_lt' (hc j e hj).1.1, (hc j e hj).1, (hc j e hj).2, ha j e hj⟩
theorem SlS.get {w : World} {p : Option Addr} {n c : Nat} {l : List Tr.S} (h : SlS w (.slice p n c) l) {j : Nat} {e : Tr.S} (hj : l[j]? = some e) :
    ∃ b o x y z, p = some ⟨b, o, none⟩ ∧ b < w.heap.size ∧ CellsS w b (o + j * 5) e x y z ∧ BdS e ∧ SlE w x e.exprs ∧ SlS w y e.body ∧ SlS w z e.els := by
  generalize hv : (Value.slice p n c) = v at h
  cases h with
  | nil p c => simp at hj
  | row b o c l X Y Z hn hm hc hx hy hz => cases hv; exact ⟨b, o, X j, Y j, Z j, rfl, cell_lt' (hc j e hj).1.1, (hc j e hj).1, (hc j e hj).2, hx j e hj, hy j e hj, hz j e hj⟩

/-- the slice value reads as a list of strings -/
def SlStr (w : World) (v : Value) (l : List ByteArray) : Prop :=
  ∃ p c, v = .slice p l.length c ∧ l.length ≤ maxLen ∧ (l ≠ [] → l.length ≤ c ∧ c ≤ maxLen) ∧ ∀ j s, l[j]? = some s → s.size ≤ maxLen ∧ ∃ b o, p = some ⟨b, o, none⟩ ∧ b < w.heap.size ∧ w.cell? ⟨b, o + j, none⟩ = some (.string s)
theorem SlStr.keep {w w' : World} {v : Value} {l : List ByteArray} (h : SlStr w v l) (hb : Below w.heap.size w w') : SlStr w' v l := by
  obtain ⟨p, c, e, hl, hn, hx⟩ := h
  refine ⟨p, c, e, hl, hn, fun j s hj => ?_⟩
  obtain ⟨hs, b, o, e2, h1, h2⟩ := hx j s hj
  exact ⟨hs, b, o, e2, Nat.lt_of_lt_of_le h1 hb.size, cell_keep' hb h2⟩
def CellsM (w : World) (b o : Nat) (m : Tr.M) (x y : Value) : Prop :=
  w.cell? ⟨b, o, none⟩ = some (.string m.name) ∧ w.cell? ⟨b, o + 1, none⟩ = some x ∧ w.cell? ⟨b, o + 2, none⟩ = some y
def SlM (w : World) (v : Value) (l : List Tr.M) : Prop :=
  ∃ p c, v = .slice p l.length c ∧ l.length ≤ maxLen ∧ (l ≠ [] → l.length ≤ c ∧ c ≤ maxLen) ∧ ∀ j m, l[j]? = some m → m.name.size ≤ maxLen ∧ ∃ b o x y, p = some ⟨b, o, none⟩ ∧ b < w.heap.size ∧ CellsM w b (o + j * 3) m x y ∧ SlStr w x m.params ∧ SlS w y m.body
theorem SlM.keep {w w' : World} {v : Value} {l : List Tr.M} (h : SlM w v l) (hb : Below w.heap.size w w') : SlM w' v l := by
  obtain ⟨p, c, e, hl, hn, hx⟩ := h
  refine ⟨p, c, e, hl, hn, fun j s hj => ?_⟩
  obtain ⟨hs, b, o, x, y, e2, h1, h2, h3, h4⟩ := hx j s hj
  exact ⟨hs, b, o, x, y, e2, Nat.lt_of_lt_of_le h1 hb.size, ⟨cell_keep' hb h2.1, cell_keep' hb h2.2.1, cell_keep' hb h2.2.2⟩, h3.keep hb, h4.keep hb⟩
def CellsC (w : World) (b o : Nat) (m : Tr.C) (x y : Value) : Prop :=
  w.cell? ⟨b, o, none⟩ = some (.string m.name) ∧ w.cell? ⟨b, o + 1, none⟩ = some (.bool m.actor) ∧ w.cell? ⟨b, o + 2, none⟩ = some x ∧ w.cell? ⟨b, o + 3, none⟩ = some y
def SlC (w : World) (v : Value) (l : List Tr.C) : Prop :=
  ∃ p c, v = .slice p l.length c ∧ l.length ≤ maxLen ∧ (l ≠ [] → l.length ≤ c ∧ c ≤ maxLen) ∧ ∀ j m, l[j]? = some m → m.name.size ≤ maxLen ∧ ∃ b o x y, p = some ⟨b, o, none⟩ ∧ b < w.heap.size ∧ CellsC w b (o + j * 4) m x y ∧ SlStr w x m.fields ∧ SlM w y m.methods
theorem SlC.keep {w w' : World} {v : Value} {l : List Tr.C} (h : SlC w v l) (hb : Below w.heap.size w w') : SlC w' v l := by
  obtain ⟨p, c, e, hl, hn, hx⟩ := h
  refine ⟨p, c, e, hl, hn, fun j s hj => ?_⟩
  obtain ⟨hs, b, o, x, y, e2, h1, h2, h3, h4⟩ := hx j s hj
  exact ⟨hs, b, o, x, y, e2, Nat.lt_of_lt_of_le h1 hb.size, ⟨cell_keep' hb h2.1, cell_keep' hb h2.2.1, cell_keep' hb h2.2.2.1, cell_keep' hb h2.2.2.2⟩, h3.keep hb, h4.keep hb⟩
end Go.Proofs.YtlhkkniebaganaaGreatDoor
