/-
  Several texts in one: Tree, LexSpec, TrSpec, LexRefA, LexRefB, LexRefC.
-/
import Derived.Below
import Derived.Deep.Slices
import Derived.Deep.Fields
import Derived.ChangeSame
import Derived.Test.YtdckddkalgnlpaaGreatDoorRows
import Derived.WalkKit
import Derived.WalkSpells
import Derived.WalkLawsBesides
import Derived.Lib.Hide
import Derived.Lib.Strings
namespace Go.Proofs.YtdckddkalgnlpaaGreatDoor
open Go.RowKit
namespace Tr
inductive E where
 | mk (kind op int : Int) (name : ByteArray) (at_ : Bool) (args : List E)
def E.kind : E → Int | .mk k _ _ _ _ _ => k
def E.op : E → Int | .mk _ o _ _ _ _ => o
def E.int : E → Int | .mk _ _ i _ _ _ => i
def E.name : E → ByteArray | .mk _ _ _ n _ _ => n
def E.at_ : E → Bool | .mk _ _ _ _ a _ => a
def E.args : E → List E | .mk _ _ _ _ _ l => l
inductive S where
 | mk (kind : Int) (name : ByteArray) (exprs : List E) (body els : List S)
def S.kind : S → Int | .mk k _ _ _ _ => k
def S.name : S → ByteArray | .mk _ n _ _ _ => n
def S.exprs : S → List E | .mk _ _ x _ _ => x
def S.body : S → List S | .mk _ _ _ b _ => b
def S.els : S → List S | .mk _ _ _ _ b => b
structure M where
 name : ByteArray
 params : List ByteArray
 body : List S
structure C where
 name : ByteArray
 actor : Bool
 fields : List ByteArray
 methods : List M
def I64 (n : Int) : Prop := -9223372036854775808 ≤ n ∧ n ≤ 9223372036854775807
def E.deep : E → Nat
 | .mk _ _ _ _ _ args => 1 + deeps args
where deeps : List E → Nat
 | [] => 0
 | e :: r => max (E.deep e) (deeps r)
def S.deep : S → Nat
 | .mk _ _ _ body els => 1 + max (deeps body) (deeps els)
where deeps : List S → Nat
 | [] => 0
 | e :: r => max (S.deep e) (deeps r)
theorem E.deeps_get : ∀ (l : List E) (j : Nat) (e : E), l[j]? = some e → E.deep e ≤ E.deep.deeps l
 | [], j, e, h => by simp at h
 | x :: r, 0, e, h => by cases h; unfold E.deep.deeps; exact Nat.le_max_left _ _
 | x :: r, j + 1, e, h => by
   unfold E.deep.deeps
   exact Nat.le_trans (E.deeps_get r j e (by simpa using h)) (Nat.le_max_right _ _)
theorem S.deeps_get : ∀ (l : List S) (j : Nat) (e : S), l[j]? = some e → S.deep e ≤ S.deep.deeps l
 | [], j, e, h => by simp at h
 | x :: r, 0, e, h => by cases h; unfold S.deep.deeps; exact Nat.le_max_left _ _
 | x :: r, j + 1, e, h => by
   unfold S.deep.deeps
   exact Nat.le_trans (S.deeps_get r j e (by simpa using h)) (Nat.le_max_right _ _)
theorem S.deep_body {s : S} {n : Nat} (h : s.deep ≤ n + 1) : S.deep.deeps s.body ≤ n := by
 cases s with
 | mk k nm x b l =>
   unfold S.deep at h
   show S.deep.deeps b ≤ n
   have := Nat.le_max_left (S.deep.deeps b) (S.deep.deeps l)
   omega
theorem S.deep_els {s : S} {n : Nat} (h : s.deep ≤ n + 1) : S.deep.deeps s.els ≤ n := by
 cases s with
 | mk k nm x b l =>
   unfold S.deep at h
   show S.deep.deeps l ≤ n
   have := Nat.le_max_right (S.deep.deeps b) (S.deep.deeps l)
   omega
end Tr
structure BdE (e : Tr.E) : Prop where
 kind : Tr.I64 e.kind
 op : Tr.I64 e.op
 int : Tr.I64 e.int
 name : e.name.size ≤ maxLen
structure BdS (s : Tr.S) : Prop where
 kind : Tr.I64 s.kind
 name : s.name.size ≤ maxLen
def CellsE (w : World) (b o : Nat) (e : Tr.E) (a : Value) : Prop :=
 w.cell? ⟨b, o, none⟩ = some (.int .i64 e.kind) ∧ w.cell? ⟨b, o + 1, none⟩ = some (.int .i64 e.op) ∧ w.cell? ⟨b, o + 2, none⟩ = some (.int .i64 e.int) ∧
 w.cell? ⟨b, o + 3, none⟩ = some (.string e.name) ∧ w.cell? ⟨b, o + 4, none⟩ = some (.bool e.at_) ∧ w.cell? ⟨b, o + 5, none⟩ = some a
def CellsS (w : World) (b o : Nat) (s : Tr.S) (x y z : Value) : Prop :=
 w.cell? ⟨b, o, none⟩ = some (.int .i64 s.kind) ∧ w.cell? ⟨b, o + 1, none⟩ = some (.string s.name) ∧
 w.cell? ⟨b, o + 2, none⟩ = some x ∧ w.cell? ⟨b, o + 3, none⟩ = some y ∧ w.cell? ⟨b, o + 4, none⟩ = some z
inductive SlE (w : World) : Value → List Tr.E → Prop
 | nil (p : Option Addr) (c : Nat) : SlE w (.slice p 0 c) []
 | row (b o c : Nat) (l : List Tr.E) (A : Nat → Value) (hn : l.length ≤ c) (hm : c ≤ maxLen) (hc : ∀ j e, l[j]? = some e → CellsE w b (o + j * 6) e (A j) ∧ BdE e)
  (ha : ∀ j e, l[j]? = some e → SlE w (A j) e.args) : SlE w (.slice (some ⟨b, o, none⟩) l.length c) l
inductive SlS (w : World) : Value → List Tr.S → Prop
 | nil (p : Option Addr) (c : Nat) : SlS w (.slice p 0 c) []
 | row (b o c : Nat) (l : List Tr.S) (X Y Z : Nat → Value) (hn : l.length ≤ c) (hm : c ≤ maxLen) (hc : ∀ j s, l[j]? = some s → CellsS w b (o + j * 5) s (X j) (Y j) (Z j) ∧ BdS s)
  (hx : ∀ j s, l[j]? = some s → SlE w (X j) s.exprs) (hy : ∀ j s, l[j]? = some s → SlS w (Y j) s.body) (hz : ∀ j s, l[j]? = some s → SlS w (Z j) s.els) : SlS w (.slice (some ⟨b, o, none⟩) l.length c) l
theorem cell_lt' {w : World} {b o : Nat} {v : Value} (h : w.cell? ⟨b, o, none⟩ = some v) : b < w.heap.size := by
 rcases Nat.lt_or_ge b w.heap.size with hlt | hge
 ·exact hlt
 ·unfold World.cell? at h
  rw [Array.getElem?_eq_none hge] at h
  cases h
theorem cell_keep' {w w' : World} {b o : Nat} {v : Value} (hb : Below w.heap.size w w') (h : w.cell? ⟨b, o, none⟩ = some v) : w'.cell? ⟨b, o, none⟩ = some v :=
 (hb.cell (cell_lt' h)).trans h
theorem CellsE.keep {w w' : World} {b o : Nat} {e : Tr.E} {a : Value} (h : CellsE w b o e a) (hb : Below w.heap.size w w') : CellsE w' b o e a :=
 ⟨cell_keep' hb h.1, cell_keep' hb h.2.1, cell_keep' hb h.2.2.1, cell_keep' hb h.2.2.2.1, cell_keep' hb h.2.2.2.2.1, cell_keep' hb h.2.2.2.2.2⟩
theorem CellsS.keep {w w' : World} {b o : Nat} {e : Tr.S} {x y z : Value} (h : CellsS w b o e x y z) (hb : Below w.heap.size w w') : CellsS w' b o e x y z :=
 ⟨cell_keep' hb h.1, cell_keep' hb h.2.1, cell_keep' hb h.2.2.1, cell_keep' hb h.2.2.2.1, cell_keep' hb h.2.2.2.2⟩
theorem SlE.keep {w w' : World} {v : Value} {l : List Tr.E} (h : SlE w v l) (hb : Below w.heap.size w w') : SlE w' v l := by
 induction h with
 | nil p c => exact .nil p c
 | row b o c l A hn hm hc ha ih => exact .row b o c l A hn hm (fun j e hj => ⟨(hc j e hj).1.keep hb, (hc j e hj).2⟩) (fun j e hj => ih j e hj)
theorem SlS.keep {w w' : World} {v : Value} {l : List Tr.S} (h : SlS w v l) (hb : Below w.heap.size w w') : SlS w' v l := by
 induction h with
 | nil p c => exact .nil p c
 | row b o c l X Y Z hn hm hc hx hy hz ih1 ih2 => exact .row b o c l X Y Z hn hm (fun j e hj => ⟨(hc j e hj).1.keep hb, (hc j e hj).2⟩) (fun j e hj => (hx j e hj).keep hb) (fun j e hj => ih1 j e hj) (fun j e hj => ih2 j e hj)
theorem SlE.form {w : World} {v : Value} {l : List Tr.E} (h : SlE w v l) : ∃ p c, v = .slice p l.length c ∧ (l ≠ [] → l.length ≤ c ∧ c ≤ maxLen) := by
 cases h with
 | nil p c => exact ⟨p, c, rfl, fun h => absurd rfl h⟩
 | row b o c l A hn hm hc ha => exact ⟨_, c, rfl, fun _ => ⟨hn, hm⟩⟩
theorem SlS.form {w : World} {v : Value} {l : List Tr.S} (h : SlS w v l) : ∃ p c, v = .slice p l.length c ∧ (l ≠ [] → l.length ≤ c ∧ c ≤ maxLen) := by
 cases h with
 | nil p c => exact ⟨p, c, rfl, fun h => absurd rfl h⟩
 | row b o c l X Y Z hn hm hc hx hy hz => exact ⟨_, c, rfl, fun _ => ⟨hn, hm⟩⟩
theorem SlE.len {w : World} {v : Value} {l : List Tr.E} (h : SlE w v l) : l.length ≤ maxLen := by
 cases h with
 | nil p c => exact Nat.zero_le _
 | row b o c l A hn hm hc ha => omega
theorem SlS.len {w : World} {v : Value} {l : List Tr.S} (h : SlS w v l) : l.length ≤ maxLen := by
 cases h with
 | nil p c => exact Nat.zero_le _
 | row b o c l X Y Z hn hm hc hx hy hz => omega
theorem SlE.get {w : World} {p : Option Addr} {n c : Nat} {l : List Tr.E} (h : SlE w (.slice p n c) l) {j : Nat} {e : Tr.E} (hj : l[j]? = some e) :
 ∃ b o a, p = some ⟨b, o, none⟩ ∧ b < w.heap.size ∧ CellsE w b (o + j * 6) e a ∧ BdE e ∧ SlE w a e.args := by
 generalize hv : (Value.slice p n c) = v at h
 cases h with
 | nil p c => simp at hj
 | row b o c l A hn hm hc ha => cases hv; exact ⟨b, o, A j, rfl, cell_lt' (hc j e hj).1.1, (hc j e hj).1, (hc j e hj).2, ha j e hj⟩
theorem SlS.get {w : World} {p : Option Addr} {n c : Nat} {l : List Tr.S} (h : SlS w (.slice p n c) l) {j : Nat} {e : Tr.S} (hj : l[j]? = some e) :
 ∃ b o x y z, p = some ⟨b, o, none⟩ ∧ b < w.heap.size ∧ CellsS w b (o + j * 5) e x y z ∧ BdS e ∧ SlE w x e.exprs ∧ SlS w y e.body ∧ SlS w z e.els := by
 generalize hv : (Value.slice p n c) = v at h
 cases h with
 | nil p c => simp at hj
 | row b o c l X Y Z hn hm hc hx hy hz => cases hv; exact ⟨b, o, X j, Y j, Z j, rfl, cell_lt' (hc j e hj).1.1, (hc j e hj).1, (hc j e hj).2, hx j e hj, hy j e hj, hz j e hj⟩
def SlStr (w : World) (v : Value) (l : List ByteArray) : Prop :=
 ∃ p c, v = .slice p l.length c ∧ l.length ≤ maxLen ∧ (l ≠ [] → l.length ≤ c ∧ c ≤ maxLen) ∧ ∀ j s, l[j]? = some s → s.size ≤ maxLen ∧ ∃ b o, p = some ⟨b, o, none⟩ ∧ b < w.heap.size ∧ w.cell? ⟨b, o + j, none⟩ = some (.string s)
theorem SlStr.keep {w w' : World} {v : Value} {l : List ByteArray} (h : SlStr w v l) (hb : Below w.heap.size w w') : SlStr w' v l := by
 obtain ⟨p, c, e, hl, hn, hx⟩ := h
 refine ⟨p, c, e, hl, hn, fun j s hj => ?_⟩
 obtain ⟨hs, b, o, e2, h1, h2⟩ := hx j s hj
 exact ⟨hs, b, o, e2, Nat.lt_of_lt_of_le h1 hb.size, cell_keep' hb h2⟩
def CellsM (w : World) (b o : Nat) (m : Tr.M) (x y : Value) : Prop :=
 w.cell? ⟨b, o, none⟩ = some (.string m.name) ∧ w.cell? ⟨b, o + 1, none⟩ = some x ∧ w.cell? ⟨b, o + 2, none⟩ = some y
def SlM (w : World) (v : Value) (l : List Tr.M) : Prop :=
 ∃ p c, v = .slice p l.length c ∧ l.length ≤ maxLen ∧ (l ≠ [] → l.length ≤ c ∧ c ≤ maxLen) ∧ ∀ j m, l[j]? = some m → m.name.size ≤ maxLen ∧ ∃ b o x y, p = some ⟨b, o, none⟩ ∧ b < w.heap.size ∧ CellsM w b (o + j * 3) m x y ∧ SlStr w x m.params ∧ SlS w y m.body
theorem SlM.keep {w w' : World} {v : Value} {l : List Tr.M} (h : SlM w v l) (hb : Below w.heap.size w w') : SlM w' v l := by
 obtain ⟨p, c, e, hl, hn, hx⟩ := h
 refine ⟨p, c, e, hl, hn, fun j s hj => ?_⟩
 obtain ⟨hs, b, o, x, y, e2, h1, h2, h3, h4⟩ := hx j s hj
 exact ⟨hs, b, o, x, y, e2, Nat.lt_of_lt_of_le h1 hb.size, ⟨cell_keep' hb h2.1, cell_keep' hb h2.2.1, cell_keep' hb h2.2.2⟩, h3.keep hb, h4.keep hb⟩
def CellsC (w : World) (b o : Nat) (m : Tr.C) (x y : Value) : Prop :=
 w.cell? ⟨b, o, none⟩ = some (.string m.name) ∧ w.cell? ⟨b, o + 1, none⟩ = some (.bool m.actor) ∧ w.cell? ⟨b, o + 2, none⟩ = some x ∧ w.cell? ⟨b, o + 3, none⟩ = some y
def SlC (w : World) (v : Value) (l : List Tr.C) : Prop :=
 ∃ p c, v = .slice p l.length c ∧ l.length ≤ maxLen ∧ (l ≠ [] → l.length ≤ c ∧ c ≤ maxLen) ∧ ∀ j m, l[j]? = some m → m.name.size ≤ maxLen ∧ ∃ b o x y, p = some ⟨b, o, none⟩ ∧ b < w.heap.size ∧ CellsC w b (o + j * 4) m x y ∧ SlStr w x m.fields ∧ SlM w y m.methods
theorem SlC.keep {w w' : World} {v : Value} {l : List Tr.C} (h : SlC w v l) (hb : Below w.heap.size w w') : SlC w' v l := by
 obtain ⟨p, c, e, hl, hn, hx⟩ := h
 refine ⟨p, c, e, hl, hn, fun j s hj => ?_⟩
 obtain ⟨hs, b, o, x, y, e2, h1, h2, h3, h4⟩ := hx j s hj
 exact ⟨hs, b, o, x, y, e2, Nat.lt_of_lt_of_le h1 hb.size, ⟨cell_keep' hb h2.1, cell_keep' hb h2.2.1, cell_keep' hb h2.2.2.1, cell_keep' hb h2.2.2.2⟩, h3.keep hb, h4.keep hb⟩
end Go.Proofs.YtdckddkalgnlpaaGreatDoor
namespace Go.Proofs.YtdckddkalgnlpaaGreatDoor
namespace Lex
abbrev Bytes := List UInt8
def letter (c : UInt8) : Bool := decide (97 ≤ c.toNat ∧ c.toNat ≤ 122 ∨ 65 ≤ c.toNat ∧ c.toNat ≤ 90)
def digit (c : UInt8) : Bool := decide (48 ≤ c.toNat ∧ c.toNat ≤ 57)
def wordc (c : UInt8) : Bool := letter c || digit c || decide (c.toNat = 95)
def tailc (c : UInt8) : Bool := letter c || decide (c.toNat = 95)
def space (c : UInt8) : Bool := decide (c.toNat = 32 ∨ c.toNat = 9 ∨ c.toNat = 10 ∨ c.toNat = 13)
def skip : Bool → Bytes → Bytes
 | _, [] => []
 | true, c :: r => if c.toNat = 10 then skip false r else skip true r
 | false, c :: r => if space c then skip false r else if c.toNat = 35 then skip true r else c :: r
structure Tok where
 kind : Nat
 text : Bytes
 val : Nat
 pos : Nat
 deriving DecidableEq, Inhabited
def keywords : List Bytes := [[97, 99, 116, 111, 114], [97, 110, 100], [97, 116], [98, 121], [101, 108, 115, 101], [103, 101, 116], [105, 102], [108, 101, 116], [109, 111, 118, 101], [110, 101, 119], [110, 105, 108], [110, 111, 116], [111, 110], [111, 114], [112, 114, 105, 110, 116], [114, 101, 99, 111, 114, 100], [114, 101, 116, 117, 114, 110], [115, 101, 110, 100], [116, 104, 105, 115], [116, 111], [118, 97, 114], [119, 97, 116, 99, 104], [119, 101, 97, 107], [119, 104, 105, 108, 101]]
def symbols : List Bytes := [[33, 61], [37], [40], [41], [42], [43], [44], [45], [46], [47], [59], [60], [60, 61], [61], [61, 61], [62], [62, 61], [123], [125]]
def value (l : Bytes) : Nat := l.foldl (fun n c => 10 * n + (c.toNat - 48)) 0
inductive Got where
 | bad (e : Nat)
 | tok (kind : Nat) (text : Bytes) (val : Nat)
 deriving DecidableEq, Inhabited
def nameAt (l : Bytes) : Got :=
 let t := l.takeWhile wordc
 if 31 < t.length then .bad 8
 else if keywords.contains t then .tok 4 t 0
 else if (t.headD 0).toNat ≤ 90 then .tok 3 t 0
 else .tok 2 t 0
def numberAt (l : Bytes) : Got :=
 let t := l.takeWhile digit
 if (l.drop t.length).head?.any tailc then .bad 3
 else if 1 < t.length ∧ t.headD 0 = 48 then .bad 3
 else if 2305843009213693951 < value t then .bad 2
 else .tok 1 t (value t)
def symbolAt (l : Bytes) : Got :=
 if 2 ≤ l.length ∧ symbols.contains (l.take 2) = true then .tok 5 (l.take 2) 0
 else if symbols.contains (l.take 1) then .tok 5 (l.take 1) 0
 else .bad 3
def next (l : Bytes) : Got :=
 if letter (l.headD 0) then nameAt l else if digit (l.headD 0) then numberAt l else symbolAt l
inductive Res where
 | bad (at_ : Nat) (e : Nat)
 | toks (l : List Tok)
 deriving DecidableEq, Inhabited
def scanF (n : Nat) : Nat → Bytes → Res
 | _, [] => .toks [⟨0, [], 0, n⟩]
 | 0, _ :: _ => .bad 0 0
 | f + 1, c :: r =>
   match next (c :: r) with
   | .bad e => .bad (n - (c :: r).length) e
   | .tok k t v =>
     match scanF n f (skip false ((c :: r).drop t.length)) with
     | .bad a e => .bad a e
     | .toks l => .toks (⟨k, t, v, n - (c :: r).length⟩ :: l)
def scan (s : Bytes) : Res :=
 if 16384 < s.length then .bad 0 8 else scanF s.length (s.length) (skip false s)
theorem skip_le : ∀ (b : Bool) (l : Bytes), (skip b l).length ≤ l.length
 | b, [] => by cases b <;> simp [skip]
 | true, c :: r => by
   have h1 := skip_le false r
   have h2 := skip_le true r
   simp only [skip, List.length_cons]
   split <;> omega
 | false, c :: r => by
   have h1 := skip_le false r
   have h2 := skip_le true r
   simp only [skip, List.length_cons]
   split
   ·omega
   ·split
    ·omega
    ·simp
theorem skip_drop : ∀ (b : Bool) (l : Bytes), skip b l = l.drop (l.length - (skip b l).length)
 | b, [] => by cases b <;> simp [skip]
 | true, c :: r => by
   have h1 := skip_drop false r
   have h2 := skip_drop true r
   have l1 := skip_le false r
   have l2 := skip_le true r
   simp only [skip, List.length_cons]
   split
   ·rw [show r.length + 1 - (skip false r).length = (r.length - (skip false r).length) + 1 by omega, List.drop_succ_cons]
    exact h1
   ·rw [show r.length + 1 - (skip true r).length = (r.length - (skip true r).length) + 1 by omega, List.drop_succ_cons]
    exact h2
 | false, c :: r => by
   have h1 := skip_drop false r
   have h2 := skip_drop true r
   have l1 := skip_le false r
   have l2 := skip_le true r
   simp only [skip, List.length_cons]
   split
   ·rw [show r.length + 1 - (skip false r).length = (r.length - (skip false r).length) + 1 by omega, List.drop_succ_cons]
    exact h1
   ·split
    ·rw [show r.length + 1 - (skip true r).length = (r.length - (skip true r).length) + 1 by omega, List.drop_succ_cons]
     exact h2
    ·simp
theorem value_snoc (l : Bytes) (c : UInt8) : value (l ++ [c]) = 10 * value l + (c.toNat - 48) := by
 unfold value; rw [List.foldl_append]; rfl
theorem value_le (l m : Bytes) : value l ≤ value (l ++ m) := by
 induction m generalizing l with
 | nil => simp
 | cons c m ih =>
   have h := ih (l ++ [c])
   rw [value_snoc, List.append_assoc] at h
   simp only [List.singleton_append] at h
   omega
theorem value_take (l : Bytes) (k : Nat) : value (l.take k) ≤ value l := by
 have h := value_le (l.take k) (l.drop k)
 rwa [List.take_append_drop] at h
end Lex
end Go.Proofs.YtdckddkalgnlpaaGreatDoor
namespace Go.Proofs.YtdckddkalgnlpaaGreatDoor
namespace Tr
def nameL (lo hi : Nat) (l : List UInt8) : Bool :=
 decide (l ≠ [] ∧ l.length ≤ 31 ∧ lo ≤ (l.headD 0).toNat ∧ (l.headD 0).toNat ≤ hi) && !Lex.keywords.contains l && l.all Lex.wordc
def varL (l : List UInt8) : Bool := nameL 97 122 l
def clsL (l : List UInt8) : Bool := nameL 65 90 l
def varB (s : ByteArray) : Bool := varL s.data.toList
def clsB (s : ByteArray) : Bool := clsL s.data.toList
def okE (k o i : Int) (nm : ByteArray) (a : Bool) (n : Nat) : Bool :=
 !(decide (k ≠ 0 ∧ i ≠ 0) || decide (k ≠ 10 ∧ o ≠ 0) || (decide (k ≠ 5) && a)) &&
 (if k = 0 then decide (n = 0 ∧ nm.size = 0 ∧ 0 ≤ i ∧ i ≤ 2305843009213693951)
  else if k = 1 then decide (n = 0 ∧ nm.size = 0)
  else if k = 2 then decide (n = 0 ∧ nm.size = 0)
  else if k = 3 then decide (n = 0) && varB nm
  else if k = 4 then decide (n = 1) && varB nm
  else if k = 5 then clsB nm && (!a || decide (0 < n))
  else if k = 6 then decide (n = 1 ∧ nm.size = 0)
  else if k = 7 then decide (n = 1 ∧ nm.size = 0)
  else if k = 8 then decide (n = 1 ∧ nm.size = 0)
  else if k = 9 then decide (n = 1 ∧ nm.size = 0)
  else if k = 10 then decide (n = 2 ∧ nm.size = 0 ∧ 0 ≤ o ∧ o ≤ 12)
  else false)
mutual
def validE : E → Bool
 | .mk k o i nm a l => validEs l && okE k o i nm a l.length
def validEs : List E → Bool
 | [] => true
 | e :: r => validE e && validEs r
end
def okS (k : Int) (nm : ByteArray) (n nb ne : Nat) : Bool :=
 if k = 0 then decide (n = 1 ∧ nb = 0 ∧ ne = 0) && varB nm
 else if k = 1 then decide (n = 1 ∧ nb = 0 ∧ ne = 0) && varB nm
 else if k = 2 then decide (n = 2 ∧ nb = 0 ∧ ne = 0) && varB nm
 else if k = 3 then decide (n = 1 ∧ nm.size = 0)
 else if k = 4 then decide (n = 1 ∧ nm.size = 0 ∧ ne = 0)
 else if k = 5 then decide (1 ≤ n ∧ nb = 0 ∧ ne = 0) && varB nm
 else if k = 6 then decide (n = 1 ∧ nm.size = 0 ∧ nb = 0 ∧ ne = 0)
 else if k = 7 then decide (n = 2 ∧ nm.size = 0 ∧ nb = 0 ∧ ne = 0)
 else if k = 8 then decide (n = 2 ∧ nb = 0 ∧ ne = 0) && varB nm
 else if k = 9 then decide (n = 0 ∧ nm.size = 0 ∧ nb = 0 ∧ ne = 0)
 else false
mutual
def validS : S → Bool
 | .mk k nm x b l => validEs x && okS k nm x.length b.length l.length && validSs b && validSs l
def validSs : List S → Bool
 | [] => true
 | s :: r => validS s && validSs r
end
def validM (m : M) : Bool := varB m.name && m.params.all varB && validSs m.body
def validC (c : C) : Bool := clsB c.name && c.fields.all varB && (c.actor || decide (c.methods.length = 0)) && c.methods.all validM
def validP (l : List C) : Bool := l.all validC
theorem validEs_all : ∀ l : List E, validEs l = l.all validE
 | [] => rfl
 | e :: r => by rw [validEs, validEs_all r]; rfl
theorem validSs_all : ∀ l : List S, validSs l = l.all validS
 | [] => rfl
 | e :: r => by rw [validSs, validSs_all r]; rfl
end Tr
end Go.Proofs.YtdckddkalgnlpaaGreatDoor
namespace Go.Proofs.YtdckddkalgnlpaaGreatDoor
open Go.RowKit
theorem letter_of (c : UInt8) : Lex.letter c = decide (97 ≤ (c.toNat : Int) ∧ (c.toNat : Int) ≤ 122 ∨ 65 ≤ (c.toNat : Int) ∧ (c.toNat : Int) ≤ 90) := by
 unfold Lex.letter; congr 1; simp only [eq_iff_iff]; omega
theorem digit_of (c : UInt8) : Lex.digit c = decide (48 ≤ (c.toNat : Int) ∧ (c.toNat : Int) ≤ 57) := by
 unfold Lex.digit; congr 1; simp only [eq_iff_iff]; omega
set_option maxHeartbeats 400000 in
theorem letter_int (c : Int) (w : World) (h0 : 0 ≤ c) (h1 : c ≤ 255) :
 Calls Tryz.prog 113 #[.int .u8 c] w fun e w' => e = .returned (.bool (decide (97 ≤ c ∧ c ≤ 122 ∨ 65 ≤ c ∧ c ≤ 90))) ∧ w = w' := by
 by_cases a : 97 ≤ c <;> by_cases b : c ≤ 122 <;> by_cases d : 65 ≤ c <;> by_cases e : c ≤ 90 <;> try omega
 all_goals
  go_enter Tryz.func113, Tryz.ntmps113
  go_wp2
  go_ret
  exact ⟨by simp [a, b, d, e]; try omega, rfl⟩
set_option maxHeartbeats 400000 in
theorem digit_int (c : Int) (w : World) (h0 : 0 ≤ c) (h1 : c ≤ 255) :
 Calls Tryz.prog 114 #[.int .u8 c] w fun e w' => e = .returned (.bool (decide (48 ≤ c ∧ c ≤ 57))) ∧ w = w' := by
 by_cases a : 48 ≤ c <;> by_cases b : c ≤ 57 <;> try omega
 all_goals
  go_enter Tryz.func114, Tryz.ntmps114
  go_wp2
  go_ret
  exact ⟨by simp [a, b], rfl⟩
theorem letter_any (c : UInt8) (w : World) :
 Calls Tryz.prog 113 #[.int .u8 c.toNat] w fun e w' => e = .returned (.bool (Lex.letter c)) ∧ w = w' := by
 rw [letter_of]; exact letter_int _ w (by omega) (by have := c.toNat_lt; omega)
theorem digit_any (c : UInt8) (w : World) :
 Calls Tryz.prog 114 #[.int .u8 c.toNat] w fun e w' => e = .returned (.bool (Lex.digit c)) ∧ w = w' := by
 rw [digit_of]; exact digit_int _ w (by omega) (by have := c.toNat_lt; omega)
theorem bytes_beq (a b : ByteArray) : (a.toList == b.toList) = decide (a = b) := by
 rw [Bool.eq_iff_iff, beq_iff_eq, decide_eq_true_eq]
 constructor
 ·intro h
  have h2 : a.data.toList = b.data.toList := by rw [← Lib.toList_data, ← Lib.toList_data]; exact h
  cases a; cases b; simp only at h2; simp_all
 ·intro h; rw [h]
def inB (zs : Nat → ByteArray) (x : ByteArray) (n : Nat) : Bool := (List.range n).any fun j => decide (zs j = x)
theorem inB_yes {zs : Nat → ByteArray} {x : ByteArray} {n k : Nat} (hk : k < n) (h : zs k = x) : inB zs x n = true := by
 unfold inB; rw [List.any_eq_true]; exact ⟨k, by simpa using hk, by simpa using h⟩
theorem inB_no {zs : Nat → ByteArray} {x : ByteArray} {n : Nat} (h : ∀ j, j < n → zs j ≠ x) : inB zs x n = false := by
 unfold inB; rw [List.any_eq_false]; intro j hj; simpa using h j (by simpa using hj)
theorem ret_bool {a b : Bool} (h : a = b) : Ending.returned (.bool a) = .returned (.bool b) := by rw [h]
set_option maxHeartbeats 400000 in
theorem in_any (b off n c : Nat) (zs : Nat → ByteArray) (x : ByteArray) (w : World) (hn : n ≤ 9223372036854775807) (hc : ∀ j, j < n → w.cell? ⟨b, off + j, none⟩ = some (.string (zs j))) :
 Calls Tryz.prog 115 #[.slice (some ⟨b, off, none⟩) n c, .string x] w fun e w' => e = .returned (.bool (inB zs x n)) ∧ w = w' := by
 have H := Lib.hid hc
 clear hc
 go_enter Tryz.func115, Tryz.ntmps115
 go_wp2
 go_loop [5] (fun i => ∃ k : Nat, k ≤ n ∧ i = .int .i64 k ∧ ∀ j, j < k → zs j ≠ x) (fun i => n - (intOf i).toNat)
 case atStart => exact ⟨0, Nat.zero_le _, rfl, fun j hj => by omega⟩
 case round =>
  obtain ⟨k, hk, rfl, hno⟩ := hrel
  have HN := Lib.hid hno
  clear hno
  by_cases hlt : k < n
  ·have hcell := H.out k hlt
   by_cases he : zs k = x
   ·have hf := Lib.hid he
    have he' : ((zs k).toList == x.toList) = true := by rw [bytes_beq]; simpa using he
    clear he
    go_wp2
    go_ret
    exact ⟨ret_bool (inB_yes hlt hf.out).symm, rfl⟩
   ·have hf := Lib.hid he
    have he' : ((zs k).toList == x.toList) = false := by rw [bytes_beq]; simpa using he
    clear he
    go_wp2
    go_round
    case rel =>
     refine ⟨k + 1, by omega, by go_num, fun j hj => ?_⟩
     by_cases e : j = k
     ·rw [e]; exact hf.out
     ·exact HN.out j (by omega)
    case measure => simp [intOf]; omega
  ·go_wp2
   go_ret
   exact ⟨ret_bool (inB_no fun j hj => HN.out j (by omega)).symm, rfl⟩
set_option maxHeartbeats 400000 in
theorem keywords_any (w : World) :
 Calls Tryz.prog 116 #[] w fun e w' => e = .returned (.slice (some ⟨w.heap.size, 0, none⟩) 24 24) ∧ w' = w.alloc (.cells ((Lex.keywords.map fun l => Value.string ⟨l.toArray⟩).toArray) 9) := by
 go_enter Tryz.func116, Tryz.ntmps116
 go_wp2
 go_ret
 exact ⟨rfl, rfl⟩
set_option maxHeartbeats 400000 in
theorem symbols_any (w : World) :
 Calls Tryz.prog 118 #[] w fun e w' => e = .returned (.slice (some ⟨w.heap.size, 0, none⟩) 19 19) ∧ w' = w.alloc (.cells ((Lex.symbols.map fun l => Value.string ⟨l.toArray⟩).toArray) 9) := by
 go_enter Tryz.func118, Tryz.ntmps118
 go_wp2
 go_ret
 exact ⟨rfl, rfl⟩
end Go.Proofs.YtdckddkalgnlpaaGreatDoor
namespace Go.Proofs.YtdckddkalgnlpaaGreatDoor
open Go.RowKit
def rest (s : ByteArray) (k : Nat) : List UInt8 := s.data.toList.drop k
theorem rest_len (s : ByteArray) (k : Nat) : (rest s k).length = s.size - k := by unfold rest; rw [List.length_drop, ← Lib.size_eq]
theorem rest_cons (s : ByteArray) (k : Nat) (h : k < s.size) : rest s k = s[k] :: rest s (k + 1) := by
 unfold rest
 rw [List.drop_eq_getElem_cons (by rw [← Lib.size_eq]; exact h)]
 rfl
theorem rest_nil (s : ByteArray) (k : Nat) (h : s.size ≤ k) : rest s k = [] := by
 unfold rest; exact List.drop_eq_nil_iff.2 (by rw [← Lib.size_eq]; exact h)
theorem space_iff (c : UInt8) : Lex.space c = true ↔ (c.toNat = 32 ∨ c.toNat = 9 ∨ c.toNat = 10 ∨ c.toNat = 13) := by unfold Lex.space; exact decide_eq_true_iff
theorem skip_t (c : UInt8) (r : List UInt8) : Lex.skip true (c :: r) = if c.toNat = 10 then Lex.skip false r else Lex.skip true r := rfl
theorem skip_f (c : UInt8) (r : List UInt8) : Lex.skip false (c :: r) = if Lex.space c then Lex.skip false r else if c.toNat = 35 then Lex.skip true r else c :: r := rfl
theorem skip_space (s : ByteArray) (k : Nat) (h : k < s.size) (a : s[k].toNat = 32 ∨ s[k].toNat = 9 ∨ s[k].toNat = 10 ∨ s[k].toNat = 13) :
 Lex.skip false (rest s k) = Lex.skip false (rest s (k + 1)) := by
 rw [rest_cons s k h, skip_f, if_pos ((space_iff _).2 a)]
theorem skip_hash (s : ByteArray) (k : Nat) (h : k < s.size) (a : s[k].toNat = 35) :
 Lex.skip false (rest s k) = Lex.skip true (rest s k) := by
 rw [rest_cons s k h, skip_f, if_neg (fun e => by rw [space_iff] at e; omega), if_pos a, skip_t, if_neg (by omega)]
theorem skip_other (s : ByteArray) (k : Nat) (h : k < s.size) (a : ¬ (s[k].toNat = 32 ∨ s[k].toNat = 9 ∨ s[k].toNat = 10 ∨ s[k].toNat = 13)) (b : ¬ s[k].toNat = 35) :
 Lex.skip false (rest s k) = rest s k := by
 rw [rest_cons s k h, skip_f, if_neg (fun e => a ((space_iff _).1 e)), if_neg b]
theorem skip_in (s : ByteArray) (k : Nat) (h : k < s.size) (a : ¬ s[k].toNat = 10) :
 Lex.skip true (rest s k) = Lex.skip true (rest s (k + 1)) := by
 rw [rest_cons s k h, skip_t, if_neg a]
theorem skip_out (s : ByteArray) (k : Nat) (h : k < s.size) (a : s[k].toNat = 10) :
 Lex.skip true (rest s k) = Lex.skip false (rest s k) := by
 rw [rest_cons s k h, skip_t, if_pos a, skip_f, if_pos ((space_iff _).2 (.inr (.inr (.inl a))))]
theorem beq_no (c : UInt8) (m : Int) (h : ¬ (c.toNat : Int) = m) : ((c.toNat : Int) == m) = false := by rw [beq_eq_false_iff_ne]; exact h
theorem beq_yes (c : UInt8) (m : Int) (h : (c.toNat : Int) = m) : ((c.toNat : Int) == m) = true := by rw [beq_iff_eq]; exact h
theorem skip_end (s : ByteArray) (k : Nat) (h : s.size ≤ k) (b : Bool) : Lex.skip b (rest s k) = [] := by
 rw [rest_nil s k h]; cases b <;> rfl
theorem skip_end2 (s : ByteArray) (k : Nat) (h : s.size ≤ k) : Lex.skip true (rest s k) = Lex.skip false (rest s k) := by
 rw [skip_end s k h, skip_end s k h]
theorem ret_i64 {a b : Int} (h : a = b) : Ending.returned (.int .i64 a) = .returned (.int .i64 b) := by rw [h]
set_option maxHeartbeats 1000000 in
theorem skip_ref (s : ByteArray) (at0 : Int) (w : World) (hs : s.size ≤ 9223372036854775806) (h0 : 0 ≤ at0) (h1 : at0 ≤ s.size) :
 Calls Tryz.prog 62 #[.string s, .int .i64 at0] w fun e w' => e = .returned (.int .i64 (s.size - (Lex.skip false (rest s at0.toNat)).length : Nat)) ∧ w = w' := by
 obtain ⟨n0, rfl⟩ := Int.eq_ofNat_of_zero_le h0
 rw [Int.toNat_natCast]
 have h1' : n0 ≤ s.size := by omega
 clear h0 h1
 go_enter Tryz.func62, Tryz.ntmps62
 go_wp2
 go_loop [1] (fun i => ∃ k : Nat, k ≤ s.size ∧ i = .int .i64 k ∧ Lex.skip false (rest s n0) = Lex.skip false (rest s k)) (fun i => s.size - (intOf i).toNat)
 case atStart => exact ⟨n0, h1', rfl, rfl⟩
 case round =>
  obtain ⟨k, hk, rfl, hr⟩ := hrel
  have HR := Lib.hid hr
  clear hr
  by_cases hlt : k < s.size
  ·by_cases a : s[k].toNat = 32 ∨ s[k].toNat = 9 ∨ s[k].toNat = 10 ∨ s[k].toNat = 13
   ·have HA := Lib.hid a
    rcases a with a | a | a | a
    all_goals
     go_wp2
     go_round
     case rel => exact ⟨k + 1, by omega, by go_num, by rw [HR.out]; exact skip_space s k hlt HA.out⟩
     case measure => simp [intOf]; omega
   ·have HA := Lib.hid a
    have a1 := beq_no s[k] 32 (fun e => a (by omega))
    have a2 := beq_no s[k] 9 (fun e => a (by omega))
    have a3 := beq_no s[k] 10 (fun e => a (by omega))
    have a4 := beq_no s[k] 13 (fun e => a (by omega))
    clear a
    by_cases b : s[k].toNat = 35
    ·have HB := Lib.hid b
     have b1 := beq_yes s[k] 35 (by omega)
     clear b
     go_wp2
     go_loop [1] (fun i => ∃ j : Nat, k ≤ j ∧ j ≤ s.size ∧ i = .int .i64 j ∧ Lex.skip true (rest s k) = Lex.skip true (rest s j)) (fun i => s.size - (intOf i).toNat)
     case atStart => exact ⟨k, Nat.le_refl _, hk, rfl, rfl⟩
     case round =>
      obtain ⟨j, hkj, hj, rfl, hq⟩ := hrel
      have HQ := Lib.hid hq
      clear hq
      by_cases hlt2 : j < s.size
      ·by_cases c : s[j].toNat = 10
       ·have HC := Lib.hid c
        have hne : j ≠ k := by intro e; subst e; have := HB.out; omega
        go_wp2
        go_round
        case rel => exact ⟨j, hj, rfl, by rw [HR.out, skip_hash s k hlt HB.out, HQ.out, skip_out s j hlt2 HC.out]⟩
        case measure => simp [intOf]; omega
       ·have HC := Lib.hid c
        go_wp2
        go_round
        case rel => exact ⟨j + 1, by omega, by omega, by go_num, by rw [HQ.out, skip_in s j hlt2 HC.out]⟩
        case measure => simp [intOf]; omega
      ·go_wp2
       go_round
       case rel => exact ⟨j, hj, rfl, by rw [HR.out, skip_hash s k hlt HB.out, HQ.out, skip_end2 s j (by omega)]⟩
       case measure => simp [intOf]; omega
    ·have HB := Lib.hid b
     have b1 := beq_no s[k] 35 (by omega)
     clear b
     go_wp2
     go_ret
     exact ⟨ret_i64 (by rw [HR.out, skip_other s k hlt HA.out HB.out, rest_len]; omega), rfl⟩
  ·go_wp2
   go_ret
   exact ⟨ret_i64 (by rw [HR.out, skip_end s k (by omega)]; simp; omega), rfl⟩
end Go.Proofs.YtdckddkalgnlpaaGreatDoor
namespace Go.Proofs.YtdckddkalgnlpaaGreatDoor
open Go.RowKit
def numR (l : List UInt8) : Int × Int :=
 if 1 < l.length ∧ l.headD 0 = 48 then (0, 3) else if 2305843009213693951 < Lex.value l then (0, 2) else ((Lex.value l : Int), 0)
theorem numR_zero {l : List UInt8} (h : 1 < l.length ∧ l.headD 0 = 48) : numR l = (0, 3) := by unfold numR; rw [if_pos h]
theorem numR_big {l : List UInt8} (h : ¬ (1 < l.length ∧ l.headD 0 = 48)) (h2 : 2305843009213693951 < Lex.value l) : numR l = (0, 2) := by unfold numR; rw [if_neg h, if_pos h2]
theorem numR_ok {l : List UInt8} (h : ¬ (1 < l.length ∧ l.headD 0 = 48)) (h2 : Lex.value l ≤ 2305843009213693951) : numR l = ((Lex.value l : Int), 0) := by unfold numR; rw [if_neg h, if_neg (by omega)]
theorem ret_num {a b : Int × Int} (h : a = b) : Ending.returned (.tuple #[.int .i64 a.1, .int .i64 a.2]) = .returned (.tuple #[.int .i64 b.1, .int .i64 b.2]) := by rw [h]
theorem take_snoc (s : ByteArray) (k : Nat) (h : k < s.size) : s.data.toList.take (k + 1) = s.data.toList.take k ++ [s[k]] := by
 rw [List.take_succ_eq_append_getElem (by simpa using h)]; rfl
theorem head_get (s : ByteArray) (h : 0 < s.size) : s.data.toList.headD 0 = s[0] := by
 have := rest_cons s 0 h
 unfold rest at this
 rw [List.drop_zero] at this
 rw [this]; rfl
set_option maxHeartbeats 1000000 in
theorem number_ref (s : ByteArray) (w : World) (hs : s.size ≤ 9223372036854775806) (hd : ∀ (j : Nat) (h : j < s.size), 48 ≤ s[j].toNat ∧ s[j].toNat ≤ 57) :
 Calls Tryz.prog 117 #[.string s] w fun e w' => e = .returned (.tuple #[.int .i64 (numR s.data.toList).1, .int .i64 (numR s.data.toList).2]) ∧ w = w' := by
 have HD := Lib.hid hd
 clear hd
 have hlen := Lib.size_eq s
 have HL := Lib.hid hlen
 clear hlen
 by_cases z : 1 < s.size ∧ s.data.toList.headD 0 = 48
 ·have HZ := Lib.hid z
  obtain ⟨z1, z2⟩ := z
  have z3 : ((s[0].toNat : Int) == 48) = true := by rw [head_get s (by omega)] at z2; rw [z2]; rfl
  clear z2
  go_enter Tryz.func117, Tryz.ntmps117
  go_wp2
  go_ret2
  exact ⟨ret_num (a := (0, 3)) (by rw [numR_zero (by rw [← HL.out]; exact HZ.out)]), rfl⟩
 ·have HZ := Lib.hid z
  have z5 : (∃ h : 0 < s.size, 1 < s.size ∧ ((s[0].toNat : Int) == 48) = false) ∨ ¬ 1 < s.size := by
   by_cases h : 1 < s.size
   ·refine .inl ⟨by omega, h, ?_⟩
    refine beq_no _ _ fun e => z ⟨h, ?_⟩
    rw [head_get s (by omega)]
    exact UInt8.toNat_inj.1 (by show _ = 48; omega)
   ·exact .inr h
  clear z
  rcases z5 with ⟨h0, h1, h2⟩ | h1
  all_goals
   go_enter Tryz.func117, Tryz.ntmps117
   go_wp2
   go_loop [4, 5] (fun n i => ∃ (k V : Nat), k ≤ s.size ∧ i = .int .i64 k ∧ n = .int .i64 V ∧ V = Lex.value (s.data.toList.take k) ∧ V ≤ 2305843009213693951) (fun _ i => s.size - (intOf i).toNat)
   case atStart => exact ⟨0, 0, Nat.zero_le _, rfl, rfl, rfl, by omega⟩
   case round =>
    obtain ⟨k, V, hk, rfl, rfl, hV, hb⟩ := hrel
    have HV := Lib.hid hV
    clear hV
    by_cases hlt : k < s.size
    ·have hdk := HD.out k hlt
     have hsn : Lex.value (s.data.toList.take (k + 1)) = 10 * V + (s[k].toNat - 48) := by rw [take_snoc s k hlt, Lex.value_snoc, HV.out]
     have HS := Lib.hid hsn
     clear hsn
     by_cases hq : V > (2305843009213693951 - (s[k].toNat - 48)) / 10
     ·go_wp2
      go_ret2
      have h3 := Lex.value_take s.data.toList (k + 1)
      rw [HS.out] at h3
      exact ⟨ret_num (a := (0, 2)) (by rw [numR_big (by rw [← HL.out]; exact HZ.out) (by omega)]), rfl⟩
     ·go_wp2
      go_round
      case rel => exact ⟨k + 1, 10 * V + (s[k].toNat - 48), by omega, by go_num, by go_num, HS.out.symm, by omega⟩
      case measure => simp [intOf]; omega
    ·go_wp2
     go_ret2
     have hk2 : V = Lex.value s.data.toList := by rw [HV.out, List.take_of_length_le (by rw [← HL.out]; omega)]
     exact ⟨ret_num (a := (V, 0)) (by rw [numR_ok (by rw [← HL.out]; exact HZ.out) (by omega), hk2]), rfl⟩
end Go.Proofs.YtdckddkalgnlpaaGreatDoor
