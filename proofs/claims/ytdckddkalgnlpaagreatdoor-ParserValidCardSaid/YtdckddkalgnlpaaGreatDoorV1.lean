/-
  Several texts in one: Tree, LexSpec, TrSpec, LexRefA, LexRefB, LexRefC, LexRefD, LexRefE, LexRefF, LexRefG, LexSpec2, LexRefH, Shelf.
-/
import Derived.Below
import Derived.Deep.Slices
import Derived.Deep.Fields
import Derived.ChangeSame
import Derived.Test.YtdckddkalgnlpaaGreatDoorRows
import Derived.WalkKit
import Derived.WalkSpells
import Derived.WalkLawsBesides
import Derived.Lib.Hide
import Derived.Lib.Strings
import Derived.Deep.RegionHeld3
import Derived.Deep.QuietTactic
import Derived.BigQuiet
import Derived.IntWalk
import Derived.Laws.StructEq
import Derived.Shelf.Strings.OnBuilder
import Derived.Shelf.Strings.Trim
import Derived.Shelf.Small.Strs
import Derived.Shelf.Strings.Prefix
import Derived.Shelf.Strings.Search3
import Derived.Shelf.Strconv.ParseIntPublic10
import Derived.Shelf.Slices.Turned
import Derived.Shelf.Slices.Clone
import Derived.Test.YtdckddkalgnlpaaGreatDoorProg
namespace Go.Proofs.YtdckddkalgnlpaaGreatDoor
open Go.RowKit
namespace Tr
inductive E where
 | mk (kind op int : Int) (name : ByteArray) (at_ : Bool) (args : List E)
def E.kind : E → Int | .mk k _ _ _ _ _ => k
def E.op : E → Int | .mk _ o _ _ _ _ => o
def E.int : E → Int | .mk _ _ i _ _ _ => i
def E.name : E → ByteArray | .mk _ _ _ n _ _ => n
def E.at_ : E → Bool | .mk _ _ _ _ a _ => a
def E.args : E → List E | .mk _ _ _ _ _ l => l
inductive S where
 | mk (kind : Int) (name : ByteArray) (exprs : List E) (body els : List S)
def S.kind : S → Int | .mk k _ _ _ _ => k
def S.name : S → ByteArray | .mk _ n _ _ _ => n
def S.exprs : S → List E | .mk _ _ x _ _ => x
def S.body : S → List S | .mk _ _ _ b _ => b
def S.els : S → List S | .mk _ _ _ _ b => b
structure M where
 name : ByteArray
 params : List ByteArray
 body : List S
structure C where
 name : ByteArray
 actor : Bool
 fields : List ByteArray
 methods : List M
def I64 (n : Int) : Prop := -9223372036854775808 ≤ n ∧ n ≤ 9223372036854775807
def E.deep : E → Nat
 | .mk _ _ _ _ _ args => 1 + deeps args
where deeps : List E → Nat
 | [] => 0
 | e :: r => max (E.deep e) (deeps r)
def S.deep : S → Nat
 | .mk _ _ _ body els => 1 + max (deeps body) (deeps els)
where deeps : List S → Nat
 | [] => 0
 | e :: r => max (S.deep e) (deeps r)
theorem E.deeps_get : ∀ (l : List E) (j : Nat) (e : E), l[j]? = some e → E.deep e ≤ E.deep.deeps l
 | [], j, e, h => by simp at h
 | x :: r, 0, e, h => by cases h; unfold E.deep.deeps; exact Nat.le_max_left _ _
 | x :: r, j + 1, e, h => by
   unfold E.deep.deeps
   exact Nat.le_trans (E.deeps_get r j e (by simpa using h)) (Nat.le_max_right _ _)
theorem S.deeps_get : ∀ (l : List S) (j : Nat) (e : S), l[j]? = some e → S.deep e ≤ S.deep.deeps l
 | [], j, e, h => by simp at h
 | x :: r, 0, e, h => by cases h; unfold S.deep.deeps; exact Nat.le_max_left _ _
 | x :: r, j + 1, e, h => by
   unfold S.deep.deeps
   exact Nat.le_trans (S.deeps_get r j e (by simpa using h)) (Nat.le_max_right _ _)
theorem E.deep_args {e : E} {n : Nat} (h : e.deep ≤ n + 1) {j : Nat} {x : E} (hj : e.args[j]? = some x) : x.deep ≤ n := by
 cases e with
 | mk k o i nm a l =>
   unfold E.deep at h
   have := E.deeps_get l j x hj
   omega
theorem S.deep_body {s : S} {n : Nat} (h : s.deep ≤ n + 1) : S.deep.deeps s.body ≤ n := by
 cases s with
 | mk k nm x b l =>
   unfold S.deep at h
   show S.deep.deeps b ≤ n
   have := Nat.le_max_left (S.deep.deeps b) (S.deep.deeps l)
   omega
theorem S.deep_els {s : S} {n : Nat} (h : s.deep ≤ n + 1) : S.deep.deeps s.els ≤ n := by
 cases s with
 | mk k nm x b l =>
   unfold S.deep at h
   show S.deep.deeps l ≤ n
   have := Nat.le_max_right (S.deep.deeps b) (S.deep.deeps l)
   omega
end Tr
structure BdE (e : Tr.E) : Prop where
 kind : Tr.I64 e.kind
 op : Tr.I64 e.op
 int : Tr.I64 e.int
 name : e.name.size ≤ maxLen
structure BdS (s : Tr.S) : Prop where
 kind : Tr.I64 s.kind
 name : s.name.size ≤ maxLen
def CellsE (w : World) (b o : Nat) (e : Tr.E) (a : Value) : Prop :=
 w.cell? ⟨b, o, none⟩ = some (.int .i64 e.kind) ∧ w.cell? ⟨b, o + 1, none⟩ = some (.int .i64 e.op) ∧ w.cell? ⟨b, o + 2, none⟩ = some (.int .i64 e.int) ∧
 w.cell? ⟨b, o + 3, none⟩ = some (.string e.name) ∧ w.cell? ⟨b, o + 4, none⟩ = some (.bool e.at_) ∧ w.cell? ⟨b, o + 5, none⟩ = some a
def CellsS (w : World) (b o : Nat) (s : Tr.S) (x y z : Value) : Prop :=
 w.cell? ⟨b, o, none⟩ = some (.int .i64 s.kind) ∧ w.cell? ⟨b, o + 1, none⟩ = some (.string s.name) ∧
 w.cell? ⟨b, o + 2, none⟩ = some x ∧ w.cell? ⟨b, o + 3, none⟩ = some y ∧ w.cell? ⟨b, o + 4, none⟩ = some z
inductive SlE (w : World) : Value → List Tr.E → Prop
 | nil (p : Option Addr) (c : Nat) : SlE w (.slice p 0 c) []
 | row (b o c : Nat) (l : List Tr.E) (A : Nat → Value) (hn : l.length ≤ c) (hm : c ≤ maxLen) (hc : ∀ j e, l[j]? = some e → CellsE w b (o + j * 6) e (A j) ∧ BdE e)
  (ha : ∀ j e, l[j]? = some e → SlE w (A j) e.args) : SlE w (.slice (some ⟨b, o, none⟩) l.length c) l
inductive SlS (w : World) : Value → List Tr.S → Prop
 | nil (p : Option Addr) (c : Nat) : SlS w (.slice p 0 c) []
 | row (b o c : Nat) (l : List Tr.S) (X Y Z : Nat → Value) (hn : l.length ≤ c) (hm : c ≤ maxLen) (hc : ∀ j s, l[j]? = some s → CellsS w b (o + j * 5) s (X j) (Y j) (Z j) ∧ BdS s)
  (hx : ∀ j s, l[j]? = some s → SlE w (X j) s.exprs) (hy : ∀ j s, l[j]? = some s → SlS w (Y j) s.body) (hz : ∀ j s, l[j]? = some s → SlS w (Z j) s.els) : SlS w (.slice (some ⟨b, o, none⟩) l.length c) l
theorem cell_lt' {w : World} {b o : Nat} {v : Value} (h : w.cell? ⟨b, o, none⟩ = some v) : b < w.heap.size := by
 rcases Nat.lt_or_ge b w.heap.size with hlt | hge
 ·exact hlt
 ·unfold World.cell? at h
  rw [Array.getElem?_eq_none hge] at h
  cases h
theorem cell_keep' {w w' : World} {b o : Nat} {v : Value} (hb : Below w.heap.size w w') (h : w.cell? ⟨b, o, none⟩ = some v) : w'.cell? ⟨b, o, none⟩ = some v :=
 (hb.cell (cell_lt' h)).trans h
theorem CellsE.keep {w w' : World} {b o : Nat} {e : Tr.E} {a : Value} (h : CellsE w b o e a) (hb : Below w.heap.size w w') : CellsE w' b o e a :=
 ⟨cell_keep' hb h.1, cell_keep' hb h.2.1, cell_keep' hb h.2.2.1, cell_keep' hb h.2.2.2.1, cell_keep' hb h.2.2.2.2.1, cell_keep' hb h.2.2.2.2.2⟩
theorem CellsS.keep {w w' : World} {b o : Nat} {e : Tr.S} {x y z : Value} (h : CellsS w b o e x y z) (hb : Below w.heap.size w w') : CellsS w' b o e x y z :=
 ⟨cell_keep' hb h.1, cell_keep' hb h.2.1, cell_keep' hb h.2.2.1, cell_keep' hb h.2.2.2.1, cell_keep' hb h.2.2.2.2⟩
theorem SlE.keep {w w' : World} {v : Value} {l : List Tr.E} (h : SlE w v l) (hb : Below w.heap.size w w') : SlE w' v l := by
 induction h with
 | nil p c => exact .nil p c
 | row b o c l A hn hm hc ha ih => exact .row b o c l A hn hm (fun j e hj => ⟨(hc j e hj).1.keep hb, (hc j e hj).2⟩) (fun j e hj => ih j e hj)
theorem SlS.keep {w w' : World} {v : Value} {l : List Tr.S} (h : SlS w v l) (hb : Below w.heap.size w w') : SlS w' v l := by
 induction h with
 | nil p c => exact .nil p c
 | row b o c l X Y Z hn hm hc hx hy hz ih1 ih2 => exact .row b o c l X Y Z hn hm (fun j e hj => ⟨(hc j e hj).1.keep hb, (hc j e hj).2⟩) (fun j e hj => (hx j e hj).keep hb) (fun j e hj => ih1 j e hj) (fun j e hj => ih2 j e hj)
theorem SlE.form {w : World} {v : Value} {l : List Tr.E} (h : SlE w v l) : ∃ p c, v = .slice p l.length c ∧ (l ≠ [] → l.length ≤ c ∧ c ≤ maxLen) := by
 cases h with
 | nil p c => exact ⟨p, c, rfl, fun h => absurd rfl h⟩
 | row b o c l A hn hm hc ha => exact ⟨_, c, rfl, fun _ => ⟨hn, hm⟩⟩
theorem SlS.form {w : World} {v : Value} {l : List Tr.S} (h : SlS w v l) : ∃ p c, v = .slice p l.length c ∧ (l ≠ [] → l.length ≤ c ∧ c ≤ maxLen) := by
 cases h with
 | nil p c => exact ⟨p, c, rfl, fun h => absurd rfl h⟩
 | row b o c l X Y Z hn hm hc hx hy hz => exact ⟨_, c, rfl, fun _ => ⟨hn, hm⟩⟩
theorem SlE.len {w : World} {v : Value} {l : List Tr.E} (h : SlE w v l) : l.length ≤ maxLen := by
 cases h with
 | nil p c => exact Nat.zero_le _
 | row b o c l A hn hm hc ha => omega
theorem SlS.len {w : World} {v : Value} {l : List Tr.S} (h : SlS w v l) : l.length ≤ maxLen := by
 cases h with
 | nil p c => exact Nat.zero_le _
 | row b o c l X Y Z hn hm hc hx hy hz => omega
theorem SlE.get {w : World} {p : Option Addr} {n c : Nat} {l : List Tr.E} (h : SlE w (.slice p n c) l) {j : Nat} {e : Tr.E} (hj : l[j]? = some e) :
 ∃ b o a, p = some ⟨b, o, none⟩ ∧ b < w.heap.size ∧ CellsE w b (o + j * 6) e a ∧ BdE e ∧ SlE w a e.args := by
 generalize hv : (Value.slice p n c) = v at h
 cases h with
 | nil p c => simp at hj
 | row b o c l A hn hm hc ha => cases hv; exact ⟨b, o, A j, rfl, cell_lt' (hc j e hj).1.1, (hc j e hj).1, (hc j e hj).2, ha j e hj⟩
theorem SlS.get {w : World} {p : Option Addr} {n c : Nat} {l : List Tr.S} (h : SlS w (.slice p n c) l) {j : Nat} {e : Tr.S} (hj : l[j]? = some e) :
 ∃ b o x y z, p = some ⟨b, o, none⟩ ∧ b < w.heap.size ∧ CellsS w b (o + j * 5) e x y z ∧ BdS e ∧ SlE w x e.exprs ∧ SlS w y e.body ∧ SlS w z e.els := by
 generalize hv : (Value.slice p n c) = v at h
 cases h with
 | nil p c => simp at hj
 | row b o c l X Y Z hn hm hc hx hy hz => cases hv; exact ⟨b, o, X j, Y j, Z j, rfl, cell_lt' (hc j e hj).1.1, (hc j e hj).1, (hc j e hj).2, hx j e hj, hy j e hj, hz j e hj⟩
def SlStr (w : World) (v : Value) (l : List ByteArray) : Prop :=
 ∃ p c, v = .slice p l.length c ∧ l.length ≤ maxLen ∧ (l ≠ [] → l.length ≤ c ∧ c ≤ maxLen) ∧ ∀ j s, l[j]? = some s → s.size ≤ maxLen ∧ ∃ b o, p = some ⟨b, o, none⟩ ∧ b < w.heap.size ∧ w.cell? ⟨b, o + j, none⟩ = some (.string s)
theorem SlStr.keep {w w' : World} {v : Value} {l : List ByteArray} (h : SlStr w v l) (hb : Below w.heap.size w w') : SlStr w' v l := by
 obtain ⟨p, c, e, hl, hn, hx⟩ := h
 refine ⟨p, c, e, hl, hn, fun j s hj => ?_⟩
 obtain ⟨hs, b, o, e2, h1, h2⟩ := hx j s hj
 exact ⟨hs, b, o, e2, Nat.lt_of_lt_of_le h1 hb.size, cell_keep' hb h2⟩
def CellsM (w : World) (b o : Nat) (m : Tr.M) (x y : Value) : Prop :=
 w.cell? ⟨b, o, none⟩ = some (.string m.name) ∧ w.cell? ⟨b, o + 1, none⟩ = some x ∧ w.cell? ⟨b, o + 2, none⟩ = some y
def SlM (w : World) (v : Value) (l : List Tr.M) : Prop :=
 ∃ p c, v = .slice p l.length c ∧ l.length ≤ maxLen ∧ (l ≠ [] → l.length ≤ c ∧ c ≤ maxLen) ∧ ∀ j m, l[j]? = some m → m.name.size ≤ maxLen ∧ ∃ b o x y, p = some ⟨b, o, none⟩ ∧ b < w.heap.size ∧ CellsM w b (o + j * 3) m x y ∧ SlStr w x m.params ∧ SlS w y m.body
theorem SlM.keep {w w' : World} {v : Value} {l : List Tr.M} (h : SlM w v l) (hb : Below w.heap.size w w') : SlM w' v l := by
 obtain ⟨p, c, e, hl, hn, hx⟩ := h
 refine ⟨p, c, e, hl, hn, fun j s hj => ?_⟩
 obtain ⟨hs, b, o, x, y, e2, h1, h2, h3, h4⟩ := hx j s hj
 exact ⟨hs, b, o, x, y, e2, Nat.lt_of_lt_of_le h1 hb.size, ⟨cell_keep' hb h2.1, cell_keep' hb h2.2.1, cell_keep' hb h2.2.2⟩, h3.keep hb, h4.keep hb⟩
def CellsC (w : World) (b o : Nat) (m : Tr.C) (x y : Value) : Prop :=
 w.cell? ⟨b, o, none⟩ = some (.string m.name) ∧ w.cell? ⟨b, o + 1, none⟩ = some (.bool m.actor) ∧ w.cell? ⟨b, o + 2, none⟩ = some x ∧ w.cell? ⟨b, o + 3, none⟩ = some y
def SlC (w : World) (v : Value) (l : List Tr.C) : Prop :=
 ∃ p c, v = .slice p l.length c ∧ l.length ≤ maxLen ∧ (l ≠ [] → l.length ≤ c ∧ c ≤ maxLen) ∧ ∀ j m, l[j]? = some m → m.name.size ≤ maxLen ∧ ∃ b o x y, p = some ⟨b, o, none⟩ ∧ b < w.heap.size ∧ CellsC w b (o + j * 4) m x y ∧ SlStr w x m.fields ∧ SlM w y m.methods
theorem SlC.keep {w w' : World} {v : Value} {l : List Tr.C} (h : SlC w v l) (hb : Below w.heap.size w w') : SlC w' v l := by
 obtain ⟨p, c, e, hl, hn, hx⟩ := h
 refine ⟨p, c, e, hl, hn, fun j s hj => ?_⟩
 obtain ⟨hs, b, o, x, y, e2, h1, h2, h3, h4⟩ := hx j s hj
 exact ⟨hs, b, o, x, y, e2, Nat.lt_of_lt_of_le h1 hb.size, ⟨cell_keep' hb h2.1, cell_keep' hb h2.2.1, cell_keep' hb h2.2.2.1, cell_keep' hb h2.2.2.2⟩, h3.keep hb, h4.keep hb⟩
end Go.Proofs.YtdckddkalgnlpaaGreatDoor
namespace Go.Proofs.YtdckddkalgnlpaaGreatDoor
namespace Lex
abbrev Bytes := List UInt8
def letter (c : UInt8) : Bool := decide (97 ≤ c.toNat ∧ c.toNat ≤ 122 ∨ 65 ≤ c.toNat ∧ c.toNat ≤ 90)
def digit (c : UInt8) : Bool := decide (48 ≤ c.toNat ∧ c.toNat ≤ 57)
def wordc (c : UInt8) : Bool := letter c || digit c || decide (c.toNat = 95)
def tailc (c : UInt8) : Bool := letter c || decide (c.toNat = 95)
def space (c : UInt8) : Bool := decide (c.toNat = 32 ∨ c.toNat = 9 ∨ c.toNat = 10 ∨ c.toNat = 13)
def skip : Bool → Bytes → Bytes
 | _, [] => []
 | true, c :: r => if c.toNat = 10 then skip false r else skip true r
 | false, c :: r => if space c then skip false r else if c.toNat = 35 then skip true r else c :: r
structure Tok where
 kind : Nat
 text : Bytes
 val : Nat
 pos : Nat
 deriving DecidableEq, Inhabited
def keywords : List Bytes := [[97, 99, 116, 111, 114], [97, 110, 100], [97, 116], [98, 121], [101, 108, 115, 101], [103, 101, 116], [105, 102], [108, 101, 116], [109, 111, 118, 101], [110, 101, 119], [110, 105, 108], [110, 111, 116], [111, 110], [111, 114], [112, 114, 105, 110, 116], [114, 101, 99, 111, 114, 100], [114, 101, 116, 117, 114, 110], [115, 101, 110, 100], [116, 104, 105, 115], [116, 111], [118, 97, 114], [119, 97, 116, 99, 104], [119, 101, 97, 107], [119, 104, 105, 108, 101]]
def symbols : List Bytes := [[33, 61], [37], [40], [41], [42], [43], [44], [45], [46], [47], [59], [60], [60, 61], [61], [61, 61], [62], [62, 61], [123], [125]]
def value (l : Bytes) : Nat := l.foldl (fun n c => 10 * n + (c.toNat - 48)) 0
inductive Got where
 | bad (e : Nat)
 | tok (kind : Nat) (text : Bytes) (val : Nat)
 deriving DecidableEq, Inhabited
def nameAt (l : Bytes) : Got :=
 let t := l.takeWhile wordc
 if 31 < t.length then .bad 8
 else if keywords.contains t then .tok 4 t 0
 else if (t.headD 0).toNat ≤ 90 then .tok 3 t 0
 else .tok 2 t 0
def numberAt (l : Bytes) : Got :=
 let t := l.takeWhile digit
 if (l.drop t.length).head?.any tailc then .bad 3
 else if 1 < t.length ∧ t.headD 0 = 48 then .bad 3
 else if 2305843009213693951 < value t then .bad 2
 else .tok 1 t (value t)
def symbolAt (l : Bytes) : Got :=
 if 2 ≤ l.length ∧ symbols.contains (l.take 2) = true then .tok 5 (l.take 2) 0
 else if symbols.contains (l.take 1) then .tok 5 (l.take 1) 0
 else .bad 3
def next (l : Bytes) : Got :=
 if letter (l.headD 0) then nameAt l else if digit (l.headD 0) then numberAt l else symbolAt l
inductive Res where
 | bad (at_ : Nat) (e : Nat)
 | toks (l : List Tok)
 deriving DecidableEq, Inhabited
def scanF (n : Nat) : Nat → Bytes → Res
 | _, [] => .toks [⟨0, [], 0, n⟩]
 | 0, _ :: _ => .bad 0 0
 | f + 1, c :: r =>
   match next (c :: r) with
   | .bad e => .bad (n - (c :: r).length) e
   | .tok k t v =>
     match scanF n f (skip false ((c :: r).drop t.length)) with
     | .bad a e => .bad a e
     | .toks l => .toks (⟨k, t, v, n - (c :: r).length⟩ :: l)
def scan (s : Bytes) : Res :=
 if 16384 < s.length then .bad 0 8 else scanF s.length (s.length) (skip false s)
theorem skip_le : ∀ (b : Bool) (l : Bytes), (skip b l).length ≤ l.length
 | b, [] => by cases b <;> simp [skip]
 | true, c :: r => by
   have h1 := skip_le false r
   have h2 := skip_le true r
   simp only [skip, List.length_cons]
   split <;> omega
 | false, c :: r => by
   have h1 := skip_le false r
   have h2 := skip_le true r
   simp only [skip, List.length_cons]
   split
   ·omega
   ·split
    ·omega
    ·simp
theorem skip_drop : ∀ (b : Bool) (l : Bytes), skip b l = l.drop (l.length - (skip b l).length)
 | b, [] => by cases b <;> simp [skip]
 | true, c :: r => by
   have h1 := skip_drop false r
   have h2 := skip_drop true r
   have l1 := skip_le false r
   have l2 := skip_le true r
   simp only [skip, List.length_cons]
   split
   ·rw [show r.length + 1 - (skip false r).length = (r.length - (skip false r).length) + 1 by omega, List.drop_succ_cons]
    exact h1
   ·rw [show r.length + 1 - (skip true r).length = (r.length - (skip true r).length) + 1 by omega, List.drop_succ_cons]
    exact h2
 | false, c :: r => by
   have h1 := skip_drop false r
   have h2 := skip_drop true r
   have l1 := skip_le false r
   have l2 := skip_le true r
   simp only [skip, List.length_cons]
   split
   ·rw [show r.length + 1 - (skip false r).length = (r.length - (skip false r).length) + 1 by omega, List.drop_succ_cons]
    exact h1
   ·split
    ·rw [show r.length + 1 - (skip true r).length = (r.length - (skip true r).length) + 1 by omega, List.drop_succ_cons]
     exact h2
    ·simp
theorem value_snoc (l : Bytes) (c : UInt8) : value (l ++ [c]) = 10 * value l + (c.toNat - 48) := by
 unfold value; rw [List.foldl_append]; rfl
end Lex
end Go.Proofs.YtdckddkalgnlpaaGreatDoor
namespace Go.Proofs.YtdckddkalgnlpaaGreatDoor
namespace Tr
def nameL (lo hi : Nat) (l : List UInt8) : Bool :=
 decide (l ≠ [] ∧ l.length ≤ 31 ∧ lo ≤ (l.headD 0).toNat ∧ (l.headD 0).toNat ≤ hi) && !Lex.keywords.contains l && l.all Lex.wordc
def varL (l : List UInt8) : Bool := nameL 97 122 l
def clsL (l : List UInt8) : Bool := nameL 65 90 l
def varB (s : ByteArray) : Bool := varL s.data.toList
def clsB (s : ByteArray) : Bool := clsL s.data.toList
def okE (k o i : Int) (nm : ByteArray) (a : Bool) (n : Nat) : Bool :=
 !(decide (k ≠ 0 ∧ i ≠ 0) || decide (k ≠ 10 ∧ o ≠ 0) || (decide (k ≠ 5) && a)) &&
 (if k = 0 then decide (n = 0 ∧ nm.size = 0 ∧ 0 ≤ i ∧ i ≤ 2305843009213693951)
  else if k = 1 then decide (n = 0 ∧ nm.size = 0)
  else if k = 2 then decide (n = 0 ∧ nm.size = 0)
  else if k = 3 then decide (n = 0) && varB nm
  else if k = 4 then decide (n = 1) && varB nm
  else if k = 5 then clsB nm && (!a || decide (0 < n))
  else if k = 6 then decide (n = 1 ∧ nm.size = 0)
  else if k = 7 then decide (n = 1 ∧ nm.size = 0)
  else if k = 8 then decide (n = 1 ∧ nm.size = 0)
  else if k = 9 then decide (n = 1 ∧ nm.size = 0)
  else if k = 10 then decide (n = 2 ∧ nm.size = 0 ∧ 0 ≤ o ∧ o ≤ 12)
  else false)
mutual
def validE : E → Bool
 | .mk k o i nm a l => validEs l && okE k o i nm a l.length
def validEs : List E → Bool
 | [] => true
 | e :: r => validE e && validEs r
end
def okS (k : Int) (nm : ByteArray) (n nb ne : Nat) : Bool :=
 if k = 0 then decide (n = 1 ∧ nb = 0 ∧ ne = 0) && varB nm
 else if k = 1 then decide (n = 1 ∧ nb = 0 ∧ ne = 0) && varB nm
 else if k = 2 then decide (n = 2 ∧ nb = 0 ∧ ne = 0) && varB nm
 else if k = 3 then decide (n = 1 ∧ nm.size = 0)
 else if k = 4 then decide (n = 1 ∧ nm.size = 0 ∧ ne = 0)
 else if k = 5 then decide (1 ≤ n ∧ nb = 0 ∧ ne = 0) && varB nm
 else if k = 6 then decide (n = 1 ∧ nm.size = 0 ∧ nb = 0 ∧ ne = 0)
 else if k = 7 then decide (n = 2 ∧ nm.size = 0 ∧ nb = 0 ∧ ne = 0)
 else if k = 8 then decide (n = 2 ∧ nb = 0 ∧ ne = 0) && varB nm
 else if k = 9 then decide (n = 0 ∧ nm.size = 0 ∧ nb = 0 ∧ ne = 0)
 else false
mutual
def validS : S → Bool
 | .mk k nm x b l => validEs x && okS k nm x.length b.length l.length && validSs b && validSs l
def validSs : List S → Bool
 | [] => true
 | s :: r => validS s && validSs r
end
def validM (m : M) : Bool := varB m.name && m.params.all varB && validSs m.body
def validC (c : C) : Bool := clsB c.name && c.fields.all varB && (c.actor || decide (c.methods.length = 0)) && c.methods.all validM
def validP (l : List C) : Bool := l.all validC
theorem validEs_all : ∀ l : List E, validEs l = l.all validE
 | [] => rfl
 | e :: r => by rw [validEs, validEs_all r]; rfl
theorem validSs_all : ∀ l : List S, validSs l = l.all validS
 | [] => rfl
 | e :: r => by rw [validSs, validSs_all r]; rfl
mutual
def leftE : E → Int → Int
 | .mk _ _ _ nm _ l, n => if 40 < nm.size then -1 else leftEs l (n - 1)
def leftEs : List E → Int → Int
 | [], n => n
 | e :: r, n => if n < 0 then n else leftEs r (leftE e n)
end
mutual
def leftS : S → Int → Int
 | .mk _ nm x b l, n => if 40 < nm.size then -1 else
   let n1 := leftEs x (n - 1)
   let n2 := if 0 ≤ n1 then leftSs b n1 else n1
   if 0 ≤ n2 then leftSs l n2 else n2
def leftSs : List S → Int → Int
 | [], n => n
 | s :: r, n => if n < 0 then n else leftSs r (leftS s n)
end
def shortL (l : List ByteArray) (n : Int) : Int := if l.any (fun s => decide (40 < s.size)) then -1 else n - l.length
def leftM (m : M) (n : Int) : Int := if 40 < m.name.size then -1 else
 let n1 := shortL m.params (n - 1)
 if 0 ≤ n1 then leftSs m.body n1 else n1
def leftMs : List M → Int → Int
 | [], n => n
 | m :: r, n => if n < 0 then n else leftMs r (leftM m n)
def leftC (c : C) (n : Int) : Int := if 40 < c.name.size then -1 else leftMs c.methods (shortL c.fields (n - 1))
def leftCs : List C → Int → Int
 | [], n => n
 | c :: r, n => if n < 0 then n else leftCs r (leftC c n)
def fewP (l : List C) (n : Int) : Bool := decide (0 ≤ leftCs l n)
def fewE (e : E) (n : Int) : Bool := decide (0 ≤ leftE e n)
end Tr
end Go.Proofs.YtdckddkalgnlpaaGreatDoor
namespace Go.Proofs.YtdckddkalgnlpaaGreatDoor
open Go.RowKit
theorem bytes_beq (a b : ByteArray) : (a.toList == b.toList) = decide (a = b) := by
 rw [Bool.eq_iff_iff, beq_iff_eq, decide_eq_true_eq]
 constructor
 ·intro h
  have h2 : a.data.toList = b.data.toList := by rw [← Lib.toList_data, ← Lib.toList_data]; exact h
  cases a; cases b; simp only at h2; simp_all
 ·intro h; rw [h]
theorem ret_bool {a b : Bool} (h : a = b) : Ending.returned (.bool a) = .returned (.bool b) := by rw [h]
end Go.Proofs.YtdckddkalgnlpaaGreatDoor
namespace Go.Proofs.YtdckddkalgnlpaaGreatDoor
open Go.RowKit
def rest (s : ByteArray) (k : Nat) : List UInt8 := s.data.toList.drop k
theorem rest_len (s : ByteArray) (k : Nat) : (rest s k).length = s.size - k := by unfold rest; rw [List.length_drop, ← Lib.size_eq]
theorem rest_cons (s : ByteArray) (k : Nat) (h : k < s.size) : rest s k = s[k] :: rest s (k + 1) := by
 unfold rest
 rw [List.drop_eq_getElem_cons (by rw [← Lib.size_eq]; exact h)]
 rfl
theorem space_iff (c : UInt8) : Lex.space c = true ↔ (c.toNat = 32 ∨ c.toNat = 9 ∨ c.toNat = 10 ∨ c.toNat = 13) := by unfold Lex.space; exact decide_eq_true_iff
theorem skip_t (c : UInt8) (r : List UInt8) : Lex.skip true (c :: r) = if c.toNat = 10 then Lex.skip false r else Lex.skip true r := rfl
theorem skip_f (c : UInt8) (r : List UInt8) : Lex.skip false (c :: r) = if Lex.space c then Lex.skip false r else if c.toNat = 35 then Lex.skip true r else c :: r := rfl
theorem beq_no (c : UInt8) (m : Int) (h : ¬ (c.toNat : Int) = m) : ((c.toNat : Int) == m) = false := by rw [beq_eq_false_iff_ne]; exact h
end Go.Proofs.YtdckddkalgnlpaaGreatDoor
namespace Go.Proofs.YtdckddkalgnlpaaGreatDoor
open Go.RowKit
theorem take_snoc (s : ByteArray) (k : Nat) (h : k < s.size) : s.data.toList.take (k + 1) = s.data.toList.take k ++ [s[k]] := by
 rw [List.take_succ_eq_append_getElem (by simpa using h)]; rfl
theorem head_get (s : ByteArray) (h : 0 < s.size) : s.data.toList.headD 0 = s[0] := by
 have := rest_cons s 0 h
 unfold rest at this
 rw [List.drop_zero] at this
 rw [this]; rfl
end Go.Proofs.YtdckddkalgnlpaaGreatDoor
namespace Go.Proofs.YtdckddkalgnlpaaGreatDoor
open Go.RowKit
def tokV (k : Int) (t : List UInt8) (v p : Int) : Value := .agg #[.int .i64 k, .string ⟨t.toArray⟩, .int .i64 v, .int .i64 p]
def gotV (p : Int) : Lex.Got → Value
 | .bad e => .tuple #[tokV 0 [] 0 0, .int .i64 e]
 | .tok k t v => .tuple #[tokV k t v p, .int .i64 0]
theorem take_takeWhile {α : Type} (p : α → Bool) : ∀ l : List α, l.take (l.takeWhile p).length = l.takeWhile p
 | [] => rfl
 | a :: l => by
   by_cases h : p a
   ·simp [h, take_takeWhile p l]
   ·simp [h]
def kwz (j : Nat) : ByteArray := ⟨(Lex.keywords.getD j []).toArray⟩
theorem nameAt_of {l T : List UInt8} (h : l.takeWhile Lex.wordc = T) : Lex.nameAt l = if 31 < T.length then .bad 8 else if Lex.keywords.contains T then .tok 4 T 0 else if (T.headD 0).toNat ≤ 90 then .tok 3 T 0 else .tok 2 T 0 := by
 unfold Lex.nameAt; rw [h]
theorem nameAt_big {l T : List UInt8} (h : l.takeWhile Lex.wordc = T) (h1 : 31 < T.length) : Lex.nameAt l = .bad 8 := by rw [nameAt_of h, if_pos h1]
end Go.Proofs.YtdckddkalgnlpaaGreatDoor
namespace Go.Proofs.YtdckddkalgnlpaaGreatDoor
open Go.RowKit
theorem numberAt_tail {l T : List UInt8} (h : l.takeWhile Lex.digit = T) (h1 : (l.drop T.length).head?.any Lex.tailc = true) : Lex.numberAt l = .bad 3 := by
 unfold Lex.numberAt; rw [h]; rw [if_pos h1]
theorem numberAt_of {l T : List UInt8} (h : l.takeWhile Lex.digit = T) (h1 : (l.drop T.length).head?.any Lex.tailc = false) :
 Lex.numberAt l = if 1 < T.length ∧ T.headD 0 = 48 then .bad 3 else if 2305843009213693951 < Lex.value T then .bad 2 else .tok 1 T (Lex.value T) := by
 unfold Lex.numberAt; rw [h]; simp only [h1, Bool.false_eq_true, if_false]
end Go.Proofs.YtdckddkalgnlpaaGreatDoor
namespace Go.Proofs.YtdckddkalgnlpaaGreatDoor
open Go.RowKit
def syz (j : Nat) : ByteArray := ⟨(Lex.symbols.getD j []).toArray⟩
theorem symbolAt_two {l : List UInt8} (h : 2 ≤ l.length) (h1 : Lex.symbols.contains (l.take 2) = true) : Lex.symbolAt l = .tok 5 (l.take 2) 0 := by
 unfold Lex.symbolAt; rw [if_pos ⟨h, h1⟩]
theorem symbolAt_one {l : List UInt8} (h : ¬ (2 ≤ l.length ∧ Lex.symbols.contains (l.take 2) = true)) (h1 : Lex.symbols.contains (l.take 1) = true) : Lex.symbolAt l = .tok 5 (l.take 1) 0 := by
 unfold Lex.symbolAt; rw [if_neg h, h1]; rfl
theorem symbolAt_no {l : List UInt8} (h : ¬ (2 ≤ l.length ∧ Lex.symbols.contains (l.take 2) = true)) (h1 : Lex.symbols.contains (l.take 1) = false) : Lex.symbolAt l = .bad 3 := by
 unfold Lex.symbolAt; rw [if_neg h, h1]; rfl
end Go.Proofs.YtdckddkalgnlpaaGreatDoor
namespace Go.Proofs.YtdckddkalgnlpaaGreatDoor
open Go.RowKit
def ToksAt (w : World) (b : Nat) (ts : List Lex.Tok) : Prop :=
 ∀ (j : Nat) (t : Lex.Tok), ts[j]? = some t → w.cell? ⟨b, j * 4, none⟩ = some (.int .i64 t.kind) ∧ w.cell? ⟨b, j * 4 + 1, none⟩ = some (.string ⟨t.text.toArray⟩) ∧
   w.cell? ⟨b, j * 4 + 2, none⟩ = some (.int .i64 t.val) ∧ w.cell? ⟨b, j * 4 + 3, none⟩ = some (.int .i64 t.pos)
end Go.Proofs.YtdckddkalgnlpaaGreatDoor
namespace Go.Proofs.YtdckddkalgnlpaaGreatDoor
namespace Lex
theorem takeWhile_take {α : Type} (p : α → Bool) : ∀ l : List α, l.takeWhile p = l.take (l.takeWhile p).length
 | [] => rfl
 | a :: l => by
   by_cases h : p a
   ·simp [h]; exact takeWhile_take p l
   ·simp [h]
theorem takeWhile_le {α : Type} (p : α → Bool) (l : List α) : (l.takeWhile p).length ≤ l.length := (List.takeWhile_sublist p).length_le
theorem takeWhile_pos {α : Type} (p : α → Bool) (a : α) (l : List α) (h : p a = true) : 1 ≤ ((a :: l).takeWhile p).length := by
 rw [List.takeWhile_cons, if_pos h]; simp
theorem next_text {c : UInt8} {r : Bytes} {k : Nat} {t : Bytes} {v : Nat} (h : next (c :: r) = .tok k t v) : t = (c :: r).take t.length ∧ 1 ≤ t.length ∧ t.length ≤ (c :: r).length := by
 unfold next at h
 rw [List.headD_cons] at h
 by_cases hl : letter c = true
 ·rw [if_pos hl] at h
  unfold nameAt at h
  have h1 := takeWhile_take wordc (c :: r)
  have h2 := takeWhile_le wordc (c :: r)
  have h3 := takeWhile_pos wordc c r (by unfold wordc; rw [hl]; rfl)
  generalize (c :: r).takeWhile wordc = T at h h1 h2 h3
  simp only at h
  split at h
  ·cases h
  ·split at h
   ·cases h; exact ⟨h1, h3, h2⟩
   ·split at h <;> (cases h; exact ⟨h1, h3, h2⟩)
 ·rw [if_neg hl] at h
  by_cases hl : digit c = true
  ·rw [if_pos hl] at h
   unfold numberAt at h
   have h1 := takeWhile_take digit (c :: r)
   have h2 := takeWhile_le digit (c :: r)
   have h3 := takeWhile_pos digit c r hl
   generalize (c :: r).takeWhile digit = T at h h1 h2 h3
   simp only at h
   split at h
   ·cases h
   ·split at h
    ·cases h
    ·split at h
     ·cases h
     ·cases h; exact ⟨h1, h3, h2⟩
  ·rw [if_neg hl] at h
   unfold symbolAt at h
   split at h
   ·rename_i hl
    cases h
    have e : ((c :: r).take 2).length = 2 := by rw [List.length_take]; omega
    rw [e]; exact ⟨rfl, by omega, hl.1⟩
   ·split at h
    ·cases h
     have e : ((c :: r).take 1).length = 1 := by rw [List.length_take]; simp
     rw [e]; exact ⟨rfl, by omega, by simp⟩
    ·cases h
theorem next_bad {l : Bytes} {e : Nat} (h : next l = .bad e) : 0 < e := by
 unfold next at h
 by_cases hl : letter (l.headD 0) = true
 ·rw [if_pos hl] at h
  unfold nameAt at h
  simp only at h
  split at h
  ·cases h; omega
  ·split at h
   ·cases h
   ·split at h <;> cases h
 ·rw [if_neg hl] at h
  by_cases hl : digit (l.headD 0) = true
  ·rw [if_pos hl] at h
   unfold numberAt at h
   simp only at h
   split at h
   ·cases h; omega
   ·split at h
    ·cases h; omega
    ·split at h
     ·cases h; omega
     ·cases h
  ·rw [if_neg hl] at h
   unfold symbolAt at h
   split at h
   ·cases h
   ·split at h
    ·cases h
    ·cases h; omega
def pre (ts : List Tok) : Res → Res
 | .bad a e => .bad a e
 | .toks l => .toks (ts ++ l)
theorem pre_nil (r : Res) : pre [] r = r := by cases r <;> rfl
theorem scanF_nil (n f : Nat) : scanF n f [] = .toks [⟨0, [], 0, n⟩] := by cases f <;> rfl
theorem scanF_bad {n f : Nat} {c : UInt8} {r : Bytes} {e : Nat} (h : next (c :: r) = .bad e) : scanF n (f + 1) (c :: r) = .bad (n - (c :: r).length) e := by
 simp only [scanF, h]
theorem scanF_tok {n f : Nat} {c : UInt8} {r : Bytes} {k : Nat} {t : Bytes} {v : Nat} (h : next (c :: r) = .tok k t v) (ts : List Tok) :
 pre ts (scanF n (f + 1) (c :: r)) = pre (ts ++ [⟨k, t, v, n - (c :: r).length⟩]) (scanF n f (skip false ((c :: r).drop t.length))) := by
 simp only [scanF, h]
 cases scanF n f (skip false ((c :: r).drop t.length)) <;> simp [pre]
end Lex
end Go.Proofs.YtdckddkalgnlpaaGreatDoor
namespace Go.Proofs.YtdckddkalgnlpaaGreatDoor
open Go.RowKit
def tokCells (t : Lex.Tok) : List Value := [.int .i64 (t.kind : Nat), .string ⟨t.text.toArray⟩, .int .i64 (t.val : Nat), .int .i64 (t.pos : Nat)]
def toksCells (ts : List Lex.Tok) : List Value := ts.flatMap tokCells
def ScanPost (s : ByteArray) (w : World) (e : Ending) (w' : World) : Prop :=
 (∃ a er : Nat, Lex.scan s.data.toList = .bad a er ∧ e = .returned (.tuple #[.slice none 0 0, .int .i64 a, .int .i64 er]) ∧ Below w.heap.size w w') ∨
 (∃ (ts : List Lex.Tok) (v : Value), Lex.scan s.data.toList = .toks ts ∧ e = .returned (.tuple #[v, .int .i64 0, .int .i64 0]) ∧ w'.ownsRow w.heap.size 59 4 v ts.length (toksCells ts) ∧ Below w.heap.size w w')
theorem tokInfo : (Tryz.prog.info? 59).map (fun i => (i.zero, i.size, i.bytes)) = some (some (.agg #[.int .i64 0, .string ⟨#[]⟩, .int .i64 0, .int .i64 0]), 4, 40) := by kernel_rfl
theorem toksCells_snoc (ts : List Lex.Tok) (t : Lex.Tok) : toksCells (ts ++ [t]) = toksCells ts ++ tokCells t := by simp [toksCells]
theorem news_cells {W : World} {h0 : Array Obj} {cs : Array Value} {t : TypeId} {b : Nat} (hW : W.heap = h0.push (.cells cs t)) (hb : b = h0.size) (j : Nat) (u : Value) (h : cs.toList[j]? = some u) :
 W.cell? ((⟨b, 0, none⟩ : Addr).add j) = some u := by
 have hadd : (⟨b, 0, none⟩ : Addr).add j = ⟨b, j, none⟩ := by unfold Addr.add; split <;> simp_all
 rw [hadd]
 unfold World.cell?
 simp [hW, hb]
 simpa using h
theorem below_grown {w w' : World} (h : Below w.heap.size w w') : w.grownBy w' none := ⟨h.os, h.tape, h.output, h.size, fun k hk _ => h.block k hk⟩
theorem own_below {w w' : World} {base : Nat} {e : TypeId} {size : Nat} {v : Value} {n : Nat} {xs : List Value} (h : w.ownsRow base e size v n xs) (hb : Below w.heap.size w w') : w'.ownsRow base e size v n xs :=
 h.kept (below_grown hb) (by cases v.ownBlock <;> simp)
theorem rest_skip (s : ByteArray) (k : Nat) (hk : k ≤ s.size) : rest s (s.size - (Lex.skip false (rest s k)).length) = Lex.skip false (rest s k) := by
 have h := Lex.skip_drop false (rest s k)
 have hle := Lex.skip_le false (rest s k)
 rw [rest_len] at h hle
 conv => rhs; rw [h]
 unfold rest
 rw [List.drop_drop]
 congr 1
 unfold rest at hle
 omega
end Go.Proofs.YtdckddkalgnlpaaGreatDoor
namespace Go.Proofs
open Go.Shelf
def Tryz.lays156_ren : Go.Shelf.Ren := ⟨fun | 156 => 42 | 165 => 87 | 166 => 88 | 169 => 45 | 240 => 139 | 241 => 140 | 276 => 168 | 277 => 169 | n => n, fun | 31 => 46 | 9 => 9 | 3 => 3 | 4 => 4 | 0 => 0 | 20 => 20 | 72 => 85 | 76 => 124 | 70 => 82 | 37 => 83 | 75 => 123 | 127 => 128 | 164 => 179 | 5 => 5 | 80 => 89 | n => n, fun | n => n⟩
theorem Tryz.lays156 : Go.Proofs.Lays.n156 Tryz.prog Tryz.lays156_ren := {
 mixed := by kernel_rfl
 f156 := Tryz.func42.trans (congrArg some (by kernel_rfl))
 f165 := Tryz.func87.trans (congrArg some (by kernel_rfl))
 f166 := Tryz.func88.trans (congrArg some (by kernel_rfl))
 f169 := Tryz.func45.trans (congrArg some (by kernel_rfl))
 f240 := Tryz.func139.trans (congrArg some (by kernel_rfl))
 f241 := Tryz.func140.trans (congrArg some (by kernel_rfl))
 f276 := Tryz.func168.trans (congrArg some (by kernel_rfl))
 f277 := Tryz.func169.trans (congrArg some (by kernel_rfl))
 t0 := Tryz.underlying0
 a0 := Tryz.isAgg0
 z0 := Tryz.sizeOf0
 v0 := Tryz.zeroValue0
 t3 := Tryz.underlying3
 a3 := Tryz.isAgg3
 z3 := Tryz.sizeOf3
 v3 := Tryz.zeroValue3
 t4 := Tryz.underlying4
 a4 := Tryz.isAgg4
 z4 := Tryz.sizeOf4
 v4 := Tryz.zeroValue4
 t9 := Tryz.underlying9
 a9 := Tryz.isAgg9
 z9 := Tryz.sizeOf9
 v9 := Tryz.zeroValue9
 t20 := Tryz.underlying20
 a20 := Tryz.isAgg20
 z20 := Tryz.sizeOf20
 v20 := Tryz.zeroValue20
 t31 := Tryz.underlying46
 a31 := Tryz.isAgg46
 z31 := Tryz.sizeOf46
 v31 := Tryz.zeroValue46
 t37 := Tryz.underlying83
 a37 := Tryz.isAgg83
 z37 := Tryz.sizeOf83
 v37 := Tryz.zeroValue83
 t70 := Tryz.underlying82
 a70 := Tryz.isAgg82
 z70 := Tryz.sizeOf82
 v70 := Tryz.zeroValue82
 t72 := Tryz.underlying85
 a72 := Tryz.isAgg85
 z72 := Tryz.sizeOf85
 v72 := Tryz.zeroValue85
 t75 := Tryz.underlying123
 a75 := Tryz.isAgg123
 z75 := Tryz.sizeOf123
 v75 := Tryz.zeroValue123
 t76 := Tryz.underlying124
 a76 := Tryz.isAgg124
 z76 := Tryz.sizeOf124
 v76 := Tryz.zeroValue124
 t127 := Tryz.underlying128
 a127 := Tryz.isAgg128
 z127 := Tryz.sizeOf128
 v127 := Tryz.zeroValue128
 t164 := Tryz.underlying179
 a164 := Tryz.isAgg179
 z164 := Tryz.sizeOf179
 v164 := Tryz.zeroValue179 }
theorem Tryz.Builder_Extra_156 : Builder.Extra Tryz.prog Tryz.lays156_ren := {
 sizeBuilder := by kernel_rfl
 liesBuilder := by kernel_rfl
 t5 := Tryz.underlying5
 a5 := Tryz.isAgg5
 z5 := Tryz.sizeOf5
 v5 := Tryz.zeroValue5
 infoByte := by kernel_rfl
 cellsByte := by kernel_rfl
 sizeByte := by kernel_rfl
 neB5 := by decide }
open Go.RowKit in
theorem Tryz.strings_Join_none (a : Option Addr) (c : Nat) (sep : ByteArray) (w : World) :
 Calls Tryz.prog 42 #[.slice a 0 c, .string sep] w fun e w' => e = .returned (.string ⟨#[]⟩) ∧ w' = w := Any.strings_Join_none Tryz.lays156 Tryz.Builder_Extra_156 a c sep w
open Go.RowKit in
theorem Tryz.strings_Join (bk o c : Nat) (xs : List ByteArray) (sep : ByteArray) (w : World) (hcells : ∀ (j : Nat) x, xs[j]? = some x → w.cell? ⟨bk, o + j, none⟩ = some (.string x)) (hbk : bk < w.heap.size) (hN : xs.length ≤ 140737488355328) (hcap : xs.length ≤ c) (hlen : (Lib.join (xs.map (·.data.toList)) sep.data.toList).length ≤ 140737488355328) :
 Calls Tryz.prog 42 #[.slice (some ⟨bk, o, none⟩) xs.length c, .string sep] w fun e w' => e = .returned (.string ⟨(Lib.join (xs.map (·.data.toList)) sep.data.toList).toArray⟩) ∧ Below w.heap.size w w' := Any.strings_Join Tryz.lays156 Tryz.Builder_Extra_156 bk o c xs sep w hcells hbk hN hcap hlen
def Tryz.lays161_ren : Go.Shelf.Ren := ⟨fun | 161 => 81 | 231 => 131 | 227 => 132 | 233 => 133 | 235 => 134 | 228 => 164 | 197 => 165 | 151 => 166 | 260 => 187 | 152 => 188 | 137 => 83 | 119 => 209 | 224 => 207 | 225 => 206 | 217 => 136 | 266 => 167 | n => n, fun | 9 => 9 | 4 => 4 | 3 => 3 | 5 => 5 | 117 => 153 | 116 => 152 | 0 => 0 | 124 => 156 | 105 => 176 | 21 => 21 | 119 => 209 | 46 => 189 | 139 => 212 | 138 => 211 | n => n, fun | 3 => 7 | 4 => 8 | n => n⟩
theorem Tryz.lays161 : Go.Proofs.Lays.n161 Tryz.prog Tryz.lays161_ren := {
 mixed := by kernel_rfl
 f119 := Tryz.func209.trans (congrArg some (by kernel_rfl))
 f137 := Tryz.func83.trans (congrArg some (by kernel_rfl))
 f151 := Tryz.func166.trans (congrArg some (by kernel_rfl))
 f152 := Tryz.func188.trans (congrArg some (by kernel_rfl))
 f161 := Tryz.func81.trans (congrArg some (by kernel_rfl))
 f197 := Tryz.func165.trans (congrArg some (by kernel_rfl))
 f217 := Tryz.func136.trans (congrArg some (by kernel_rfl))
 f224 := Tryz.func207.trans (congrArg some (by kernel_rfl))
 f225 := Tryz.func206.trans (congrArg some (by kernel_rfl))
 f227 := Tryz.func132.trans (congrArg some (by kernel_rfl))
 f228 := Tryz.func164.trans (congrArg some (by kernel_rfl))
 f231 := Tryz.func131.trans (congrArg some (by kernel_rfl))
 f233 := Tryz.func133.trans (congrArg some (by kernel_rfl))
 f235 := Tryz.func134.trans (congrArg some (by kernel_rfl))
 f260 := Tryz.func187.trans (congrArg some (by kernel_rfl))
 f266 := Tryz.func167.trans (congrArg some (by kernel_rfl))
 t0 := Tryz.underlying0
 a0 := Tryz.isAgg0
 z0 := Tryz.sizeOf0
 v0 := Tryz.zeroValue0
 t3 := Tryz.underlying3
 a3 := Tryz.isAgg3
 z3 := Tryz.sizeOf3
 v3 := Tryz.zeroValue3
 t4 := Tryz.underlying4
 a4 := Tryz.isAgg4
 z4 := Tryz.sizeOf4
 v4 := Tryz.zeroValue4
 t5 := Tryz.underlying5
 a5 := Tryz.isAgg5
 z5 := Tryz.sizeOf5
 v5 := Tryz.zeroValue5
 t9 := Tryz.underlying9
 a9 := Tryz.isAgg9
 z9 := Tryz.sizeOf9
 v9 := Tryz.zeroValue9
 t21 := Tryz.underlying21
 a21 := Tryz.isAgg21
 z21 := Tryz.sizeOf21
 v21 := Tryz.zeroValue21
 t46 := Tryz.underlying189
 a46 := Tryz.isAgg189
 z46 := Tryz.sizeOf189
 v46 := Tryz.zeroValue189
 t105 := Tryz.underlying176
 a105 := Tryz.isAgg176
 z105 := Tryz.sizeOf176
 v105 := Tryz.zeroValue176
 t116 := Tryz.underlying152
 a116 := Tryz.isAgg152
 z116 := Tryz.sizeOf152
 t117 := Tryz.underlying153
 a117 := Tryz.isAgg153
 z117 := Tryz.sizeOf153
 v117 := Tryz.zeroValue153
 t119 := Tryz.underlying209
 a119 := Tryz.isAgg209
 z119 := Tryz.sizeOf209
 t124 := Tryz.underlying156
 a124 := Tryz.isAgg156
 z124 := Tryz.sizeOf156
 v124 := Tryz.zeroValue156
 t138 := Tryz.underlying211
 a138 := Tryz.isAgg211
 z138 := Tryz.sizeOf211
 v138 := Tryz.zeroValue211
 t139 := Tryz.underlying212
 a139 := Tryz.isAgg212
 z139 := Tryz.sizeOf212
 v139 := Tryz.zeroValue212
 g3 := by kernel_rfl
 g4 := by kernel_rfl }
def Tryz.lays137_ren : Go.Shelf.Ren := ⟨fun | 137 => 83 | 217 => 136 | 266 => 167 | n => n, fun | 9 => 9 | 5 => 5 | 3 => 3 | n => n, fun | n => n⟩
theorem Tryz.lays137 : Go.Proofs.Lays.n137 Tryz.prog Tryz.lays137_ren := {
 mixed := by kernel_rfl
 f137 := Tryz.func83.trans (congrArg some (by kernel_rfl))
 f217 := Tryz.func136.trans (congrArg some (by kernel_rfl))
 f266 := Tryz.func167.trans (congrArg some (by kernel_rfl))
 t3 := Tryz.underlying3
 a3 := Tryz.isAgg3
 z3 := Tryz.sizeOf3
 v3 := Tryz.zeroValue3
 t5 := Tryz.underlying5
 a5 := Tryz.isAgg5
 z5 := Tryz.sizeOf5
 v5 := Tryz.zeroValue5
 t9 := Tryz.underlying9
 a9 := Tryz.isAgg9
 z9 := Tryz.sizeOf9
 v9 := Tryz.zeroValue9 }
open Go.RowKit in
theorem Tryz.strings_IndexByte (s : ByteArray) (c : Int) (w : World) :
 Calls Tryz.prog 83 #[.string s, .int .u8 c] w fun e w' => e = .returned (.int .i64 (Lib.indexByte s.data.toList c.toNat.toUInt8)) ∧ w' = w := Any.strings_IndexByte Tryz.lays137 s c w
def Tryz.laysC174_ren : Go.Shelf.Ren := ⟨fun | 174 => 127 | 247 => 159 | 245 => 160 | 287 => 179 | 279 => 180 | 280 => 181 | 281 => 182 | 282 => 183 | 321 => 200 | 322 => 201 | 316 => 202 | 171 => 204 | 205 => 203 | 243 => 219 | 246 => 170 | 283 => 189 | 284 => 190 | 285 => 191 | 286 => 192 | 129 => 211 | 317 => 210 | 318 => 212 | 319 => 213 | 320 => 214 | 337 => 221 | 338 => 222 | n => n, fun | 9 => 9 | 3 => 3 | 2 => 2 | 75 => 123 | 85 => 148 | 4 => 4 | 167 => 185 | 5 => 5 | 53 => 186 | 175 => 187 | 46 => 189 | 168 => 190 | 37 => 83 | 0 => 0 | 210 => 206 | 21 => 21 | 127 => 128 | 145 => 227 | 143 => 225 | 171 => 194 | 173 => 197 | 212 => 215 | 51 => 216 | 20 => 20 | 213 => 217 | 232 => 230 | 233 => 231 | 80 => 89 | n => n, fun | 15 => 5 | 16 => 6 | 17 => 9 | 18 => 10 | 19 => 11 | n => n⟩
theorem Tryz.laysC174 : Go.Proofs.LaysC.n174 Tryz.prog Tryz.laysC174_ren := {
 mixed := by kernel_rfl
 f129 := Tryz.func211.trans (congrArg some (by kernel_rfl))
 f171 := Tryz.func204.trans (congrArg some (by kernel_rfl))
 f174 := Tryz.func127.trans (congrArg some (by kernel_rfl))
 f205 := Tryz.func203.trans (congrArg some (by kernel_rfl))
 f243 := Tryz.func219.trans (congrArg some (by kernel_rfl))
 f245 := Tryz.func160.trans (congrArg some (by kernel_rfl))
 f246 := Tryz.func170.trans (congrArg some (by kernel_rfl))
 f247 := Tryz.func159.trans (congrArg some (by kernel_rfl))
 f279 := Tryz.func180.trans (congrArg some (by kernel_rfl))
 f280 := Tryz.func181.trans (congrArg some (by kernel_rfl))
 f281 := Tryz.func182.trans (congrArg some (by kernel_rfl))
 f282 := Tryz.func183.trans (congrArg some (by kernel_rfl))
 f283 := Tryz.func189.trans (congrArg some (by kernel_rfl))
 f284 := Tryz.func190.trans (congrArg some (by kernel_rfl))
 f285 := Tryz.func191.trans (congrArg some (by kernel_rfl))
 f286 := Tryz.func192.trans (congrArg some (by kernel_rfl))
 f287 := Tryz.func179.trans (congrArg some (by kernel_rfl))
 f316 := Tryz.func202.trans (congrArg some (by kernel_rfl))
 f317 := Tryz.func210.trans (congrArg some (by kernel_rfl))
 f318 := Tryz.func212.trans (congrArg some (by kernel_rfl))
 f319 := Tryz.func213.trans (congrArg some (by kernel_rfl))
 f320 := Tryz.func214.trans (congrArg some (by kernel_rfl))
 f321 := Tryz.func200.trans (congrArg some (by kernel_rfl))
 f322 := Tryz.func201.trans (congrArg some (by kernel_rfl))
 f337 := Tryz.func221.trans (congrArg some (by kernel_rfl))
 f338 := Tryz.func222.trans (congrArg some (by kernel_rfl))
 t0 := Tryz.underlying0
 a0 := Tryz.isAgg0
 z0 := Tryz.sizeOf0
 v0 := Tryz.zeroValue0
 t2 := Tryz.underlying2
 a2 := Tryz.isAgg2
 z2 := Tryz.sizeOf2
 v2 := Tryz.zeroValue2
 t3 := Tryz.underlying3
 a3 := Tryz.isAgg3
 z3 := Tryz.sizeOf3
 v3 := Tryz.zeroValue3
 t4 := Tryz.underlying4
 a4 := Tryz.isAgg4
 z4 := Tryz.sizeOf4
 v4 := Tryz.zeroValue4
 t5 := Tryz.underlying5
 a5 := Tryz.isAgg5
 z5 := Tryz.sizeOf5
 v5 := Tryz.zeroValue5
 t9 := Tryz.underlying9
 a9 := Tryz.isAgg9
 z9 := Tryz.sizeOf9
 v9 := Tryz.zeroValue9
 t20 := Tryz.underlying20
 a20 := Tryz.isAgg20
 z20 := Tryz.sizeOf20
 v20 := Tryz.zeroValue20
 t21 := Tryz.underlying21
 a21 := Tryz.isAgg21
 z21 := Tryz.sizeOf21
 v21 := Tryz.zeroValue21
 t37 := Tryz.underlying83
 a37 := Tryz.isAgg83
 z37 := Tryz.sizeOf83
 v37 := Tryz.zeroValue83
 t46 := Tryz.underlying189
 a46 := Tryz.isAgg189
 z46 := Tryz.sizeOf189
 v46 := Tryz.zeroValue189
 t51 := Tryz.underlying216
 a51 := Tryz.isAgg216
 z51 := Tryz.sizeOf216
 v51 := Tryz.zeroValue216
 t53 := Tryz.underlying186
 a53 := Tryz.isAgg186
 z53 := Tryz.sizeOf186
 v53 := Tryz.zeroValue186
 t75 := Tryz.underlying123
 a75 := Tryz.isAgg123
 z75 := Tryz.sizeOf123
 v75 := Tryz.zeroValue123
 t85 := Tryz.underlying148
 a85 := Tryz.isAgg148
 z85 := Tryz.sizeOf148
 v85 := Tryz.zeroValue148
 t127 := Tryz.underlying128
 a127 := Tryz.isAgg128
 z127 := Tryz.sizeOf128
 v127 := Tryz.zeroValue128
 t143 := Tryz.underlying225
 a143 := Tryz.isAgg225
 z143 := Tryz.sizeOf225
 v143 := Tryz.zeroValue225
 t145 := Tryz.underlying227
 a145 := Tryz.isAgg227
 z145 := Tryz.sizeOf227
 v145 := Tryz.zeroValue227
 t167 := Tryz.underlying185
 a167 := Tryz.isAgg185
 z167 := Tryz.sizeOf185
 v167 := Tryz.zeroValue185
 t168 := Tryz.underlying190
 a168 := Tryz.isAgg190
 z168 := Tryz.sizeOf190
 v168 := Tryz.zeroValue190
 t171 := Tryz.underlying194
 a171 := Tryz.isAgg194
 z171 := Tryz.sizeOf194
 v171 := Tryz.zeroValue194
 t173 := Tryz.underlying197
 a173 := Tryz.isAgg197
 z173 := Tryz.sizeOf197
 v173 := Tryz.zeroValue197
 t175 := Tryz.underlying187
 a175 := Tryz.isAgg187
 z175 := Tryz.sizeOf187
 v175 := Tryz.zeroValue187
 t210 := Tryz.underlying206
 a210 := Tryz.isAgg206
 z210 := Tryz.sizeOf206
 v210 := Tryz.zeroValue206
 t212 := Tryz.underlying215
 a212 := Tryz.isAgg215
 z212 := Tryz.sizeOf215
 v212 := Tryz.zeroValue215
 t213 := Tryz.underlying217
 a213 := Tryz.isAgg217
 z213 := Tryz.sizeOf217
 t232 := Tryz.underlying230
 a232 := Tryz.isAgg230
 z232 := Tryz.sizeOf230
 v232 := Tryz.zeroValue230
 t233 := Tryz.underlying231
 a233 := Tryz.isAgg231
 z233 := Tryz.sizeOf231
 v233 := Tryz.zeroValue231
 g15 := by kernel_rfl
 g16 := by kernel_rfl
 g17 := by kernel_rfl
 g18 := by kernel_rfl
 g19 := by kernel_rfl
 t80 := Tryz.underlying89
 a80 := Tryz.isAgg89
 z80 := Tryz.sizeOf89
 v80 := Tryz.zeroValue89
 i0 := by kernel_rfl
 i2 := by kernel_rfl
 i3 := by kernel_rfl
 i4 := by kernel_rfl
 i5 := by kernel_rfl
 i9 := by kernel_rfl
 i20 := by kernel_rfl
 i21 := by kernel_rfl
 i37 := by kernel_rfl
 i46 := by kernel_rfl
 i51 := by kernel_rfl
 i53 := by kernel_rfl
 i75 := by kernel_rfl
 i80 := by kernel_rfl
 i85 := by kernel_rfl
 i127 := by kernel_rfl
 i143 := by kernel_rfl
 i145 := by kernel_rfl
 i167 := by kernel_rfl
 i168 := by kernel_rfl
 i171 := by kernel_rfl
 i173 := by kernel_rfl
 i175 := by kernel_rfl
 i210 := by kernel_rfl
 i212 := by kernel_rfl
 i232 := by kernel_rfl
 i233 := by kernel_rfl
 m15 := by kernel_rfl
 m16 := by kernel_rfl
 m17 := by kernel_rfl
 m18 := by kernel_rfl
 m19 := by kernel_rfl
 c0 := by kernel_rfl
 c2 := by kernel_rfl
 c3 := by kernel_rfl
 c4 := by kernel_rfl
 c5 := by kernel_rfl
 c9 := by kernel_rfl
 c20 := by kernel_rfl
 c21 := by kernel_rfl
 c37 := by kernel_rfl
 c46 := by kernel_rfl
 c51 := by kernel_rfl
 c53 := by kernel_rfl
 c75 := by kernel_rfl
 c80 := by kernel_rfl
 c85 := by kernel_rfl
 c127 := by kernel_rfl
 c143 := by kernel_rfl
 c145 := by kernel_rfl
 c167 := by kernel_rfl
 c168 := by kernel_rfl
 c171 := by kernel_rfl
 c173 := by kernel_rfl
 c175 := by kernel_rfl
 c210 := by kernel_rfl
 c212 := by kernel_rfl
 c213 := by kernel_rfl
 c232 := by kernel_rfl
 c233 := by kernel_rfl }
open Go.RowKit in
theorem Tryz.strconv_ParseInt_10_at64_ok (s : ByteArray) (hmax : s.size ≤ 9223372036854775806) (v : Int) (h : Lib.parseIntB 64 s.data.toList = .ok v) (w : World) :
 Calls Tryz.prog 127 #[.string s, .int .i64 10, .int .i64 64] w fun e w' => e = .returned (.tuple #[.int .i64 v, .nilIface]) ∧ (w' = w ∨ ∃ t, w' = Lib.bytesWorld w 5 t) := Any.strconv_ParseInt_10_at64_ok Tryz.laysC174 s hmax v h w
open Go.RowKit in
theorem Tryz.strconv_ParseInt_10_at64_range (s : ByteArray) (hlim : s.size ≤ 281474976710656) (h : Lib.parseIntB 64 s.data.toList = .range) (ev : Value) (w : World) (hv : w.cell? ⟨6, 0, none⟩ = some ev) (hev : ev = .nilIface ∨ ∃ te pe, ev = .iface te pe) :
 Calls Tryz.prog 127 #[.string s, .int .i64 10, .int .i64 64] w fun e w' => ∃ N, e = .returned (.tuple #[.int .i64 (Lib.intSat 64 s.data.toList), .iface 190 (.pointer (some ⟨N, 0, none⟩))]) ∧ w.heap.size ≤ N ∧ w'.heap[N]? = some (.cells #[.string ⟨#[80, 97, 114, 115, 101, 73, 110, 116]⟩, .string s, ev] 206 (0, 0)) ∧ Below w.heap.size w w' := Any.strconv_ParseInt_10_at64_range Tryz.laysC174 s hlim h ev w hv hev
def Tryz.lays144_ren : Go.Shelf.Ren := ⟨fun | 144 => 129 | 143 => 162 | 219 => 186 | 217 => 136 | 225 => 206 | 224 => 207 | 267 => 208 | 266 => 167 | 314 => 220 | n => n, fun | 9 => 9 | 4 => 4 | 3 => 3 | 5 => 5 | 46 => 189 | 146 => 220 | 51 => 216 | n => n, fun | 1 => 4 | n => n⟩
theorem Tryz.lays144 : Go.Proofs.Lays.n144 Tryz.prog Tryz.lays144_ren := {
 mixed := by kernel_rfl
 f143 := Tryz.func162.trans (congrArg some (by kernel_rfl))
 f144 := Tryz.func129.trans (congrArg some (by kernel_rfl))
 f217 := Tryz.func136.trans (congrArg some (by kernel_rfl))
 f219 := Tryz.func186.trans (congrArg some (by kernel_rfl))
 f224 := Tryz.func207.trans (congrArg some (by kernel_rfl))
 f225 := Tryz.func206.trans (congrArg some (by kernel_rfl))
 f266 := Tryz.func167.trans (congrArg some (by kernel_rfl))
 f267 := Tryz.func208.trans (congrArg some (by kernel_rfl))
 f314 := Tryz.func220.trans (congrArg some (by kernel_rfl))
 t3 := Tryz.underlying3
 a3 := Tryz.isAgg3
 z3 := Tryz.sizeOf3
 v3 := Tryz.zeroValue3
 t4 := Tryz.underlying4
 a4 := Tryz.isAgg4
 z4 := Tryz.sizeOf4
 v4 := Tryz.zeroValue4
 t5 := Tryz.underlying5
 a5 := Tryz.isAgg5
 z5 := Tryz.sizeOf5
 v5 := Tryz.zeroValue5
 t9 := Tryz.underlying9
 a9 := Tryz.isAgg9
 z9 := Tryz.sizeOf9
 v9 := Tryz.zeroValue9
 t46 := Tryz.underlying189
 a46 := Tryz.isAgg189
 z46 := Tryz.sizeOf189
 v46 := Tryz.zeroValue189
 t51 := Tryz.underlying216
 a51 := Tryz.isAgg216
 z51 := Tryz.sizeOf216
 v51 := Tryz.zeroValue216
 t146 := Tryz.underlying220
 a146 := Tryz.isAgg220
 z146 := Tryz.sizeOf220
 v146 := Tryz.zeroValue220
 g1 := by kernel_rfl }
open Go.RowKit Go.Lib in
theorem Tryz.strings_Contains_one (s : ByteArray) (c : UInt8) (w : World) :
 Calls Tryz.prog 129 #[.string s, .string ⟨#[c]⟩] w fun e w' => e = .returned (.bool (decide (0 ≤ Lib.indexByte s.data.toList c))) ∧ w' = w := Any.strings_Contains_one Tryz.lays144 s c w
def Tryz.lays99_ren : Go.Shelf.Ren := ⟨fun | 99 => 82 | 206 => 135 | n => n, fun | 9 => 9 | 4 => 4 | 3 => 3 | n => n, fun | n => n⟩
theorem Tryz.lays99 : Go.Proofs.Lays.n99 Tryz.prog Tryz.lays99_ren := {
 mixed := by kernel_rfl
 f99 := Tryz.func82.trans (congrArg some (by kernel_rfl))
 f206 := Tryz.func135.trans (congrArg some (by kernel_rfl))
 t3 := Tryz.underlying3
 a3 := Tryz.isAgg3
 z3 := Tryz.sizeOf3
 v3 := Tryz.zeroValue3
 t4 := Tryz.underlying4
 a4 := Tryz.isAgg4
 z4 := Tryz.sizeOf4
 v4 := Tryz.zeroValue4
 t9 := Tryz.underlying9
 a9 := Tryz.isAgg9
 z9 := Tryz.sizeOf9
 v9 := Tryz.zeroValue9 }
open Go.RowKit Go.Lib in
theorem Tryz.strings_HasPrefix (s p : ByteArray) (w : World) :
 Calls Tryz.prog 82 #[.string s, .string p] w fun e w' => e = .returned (.bool (Lib.hasPrefix s.data.toList p.data.toList)) ∧ w' = w := Any.strings_HasPrefix Tryz.lays99 s p w
def Tryz.lays110_ren : Go.Shelf.Ren := ⟨fun | 110 => 130 | 109 => 163 | n => n, fun | 31 => 46 | 9 => 9 | 4 => 4 | 3 => 3 | 0 => 0 | n => n, fun | n => n⟩
theorem Tryz.lays110 : Go.Proofs.Lays.n110 Tryz.prog Tryz.lays110_ren := {
 mixed := by kernel_rfl
 f109 := Tryz.func163.trans (congrArg some (by kernel_rfl))
 f110 := Tryz.func130.trans (congrArg some (by kernel_rfl))
 t0 := Tryz.underlying0
 a0 := Tryz.isAgg0
 z0 := Tryz.sizeOf0
 v0 := Tryz.zeroValue0
 t3 := Tryz.underlying3
 a3 := Tryz.isAgg3
 z3 := Tryz.sizeOf3
 v3 := Tryz.zeroValue3
 t4 := Tryz.underlying4
 a4 := Tryz.isAgg4
 z4 := Tryz.sizeOf4
 v4 := Tryz.zeroValue4
 t9 := Tryz.underlying9
 a9 := Tryz.isAgg9
 z9 := Tryz.sizeOf9
 v9 := Tryz.zeroValue9
 t31 := Tryz.underlying46
 a31 := Tryz.isAgg46
 z31 := Tryz.sizeOf46
 v31 := Tryz.zeroValue46 }
open Go.Lib in
theorem Tryz.slices_Contains_string (b off n c : Nat) (zs : List ByteArray) (x : ByteArray) (w : World) (hz : n ≤ zs.length) (hbig : n ≤ 9223372036854775807) (hc : ∀ j, j < zs.length → w.cell? ⟨b, off + j, none⟩ = some (.string (zs.getD j ByteArray.empty))) :
 Calls Tryz.prog 130 #[.slice (some ⟨b, off, none⟩) n c, .string x] w fun e w' => e = .returned (.bool (Lib.containsS (zs.take n) x)) ∧ w' = w := Any.slices_Contains_string Tryz.lays110 b off n c zs x w hz hbig hc
end Go.Proofs
