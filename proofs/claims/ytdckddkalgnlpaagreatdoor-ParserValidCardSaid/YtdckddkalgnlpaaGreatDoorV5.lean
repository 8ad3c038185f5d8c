/-
  Several texts in one: TrFew, TrForm, SyPr, TrTok, TrProgA, SyWrite, ShelfY.
-/
import Derived.Test.YtdckddkalgnlpaaGreatDoorV1
import Derived.Test.YtdckddkalgnlpaaGreatDoorRows
import Derived.WalkKit
import Derived.WalkLawsBesides
import Derived.WalkSpells
import Derived.LoopTactic
import Derived.Lib.Hide
import Derived.Lib.Builder
import Derived.Lib.AppendStr
import Derived.Lib.UnsafeStr
import Derived.Lib.OthersKept
import Derived.Laws.Externs
import Derived.Test.YtdckddkalgnlpaaGreatDoorV3
import Derived.Deep.LoopGhost
import Derived.Lib.LaidTab
import Derived.Shelf.Strconv.Itoa3
import Derived.Shelf.Strings.Builder1
import Derived.Shelf.Strings.Builder2
import Derived.Shelf.Strings.OnBuilder
import Derived.Shelf.Strings.Trim
import Derived.Shelf.Small.Utf8
import Derived.Shelf.Small.Strs
import Derived.Shelf.Strings.BuilderF
import Derived.Shelf.Strconv.Itoa0
import Derived.Shelf.Strconv.Itoa1
import Derived.Shelf.LaysM
import Derived.Shelf.Strconv.Itoa2
import Derived.Shelf.Strconv.Itoa4
import Derived.Shelf.Strconv.ParseIntEmpty
import Derived.Shelf.Strconv.Clone
import Derived.Shelf.Strconv.SyntaxError
import Derived.Shelf.LaysC
import Derived.Shelf.Strconv.ToError
import Derived.Shelf.Strconv.Lower
import Derived.Shelf.Strconv.ParseUint10
import Derived.Shelf.Strconv.ParseUint10Empty
import Derived.Shelf.Strconv.ParseUint10Any
import Derived.Shelf.Strconv.ParseInt10
import Derived.Shelf.Strconv.RangeError
import Derived.Shelf.Strconv.ToErrorRange
import Derived.Shelf.Strconv.ParseUintEmpty
import Derived.Shelf.Strconv.ParseUint10b64
import Derived.Shelf.Strconv.ParseUint10b32
import Derived.Shelf.Strconv.ParseUint10b16
import Derived.Shelf.Strconv.ParseUint10b8
import Derived.Shelf.Strconv.ParseUint10At
import Derived.Shelf.Strconv.ParseInt10At64
import Derived.Shelf.Strconv.ParseInt10At32
import Derived.Shelf.Strconv.ParseInt10At16
import Derived.Shelf.Strconv.ParseInt10At8
import Derived.Shelf.Strconv.ParseInt10All
import Derived.Shelf.Strconv.ParseIntPublic10
import Derived.Shelf.Strconv.ErrVarParseInt
import Derived.Shelf.Strings.Search1
import Derived.Shelf.Strings.Search2
import Derived.Shelf.Strings.Search3
import Derived.Shelf.Strings.Shaped
import Derived.Shelf.Strings.Prefix
import Derived.Shelf.Strings.Runes
import Derived.Shelf.Strings.AsciiSet
import Derived.Shelf.Bits.Mul64
import Derived.Shelf.Strings.Repeat
import Derived.Shelf.Unicode.DecodeSlow
import Derived.Shelf.Slices.Turned
import Derived.Shelf.Slices.Equal
import Derived.Test.YtdckddkalgnlpaaGreatDoorProg
namespace Go.Proofs.YtdckddkalgnlpaaGreatDoor
open Go.RowKit
def exprV (e : Tr.E) (a : Value) : Value := .agg #[.int .i64 e.kind, .int .i64 e.op, .int .i64 e.int, .string e.name, .bool e.at_, a]
theorem box_cell (w : World) (cs : Array Value) (t : TypeId) (i : Nat) (u : Value) (h : cs[i]? = some u) : (w.alloc (.cells cs t)).cell? ⟨w.heap.size, i, none⟩ = some u := by
 unfold World.cell? World.alloc
 simp
 simpa using h
theorem below_box (w : World) (o : Obj) : Below w.heap.size w (w.alloc o) := (Below.refl _ _).alloc (Nat.le_refl _) o
theorem below_next {wb w w' : World} (h : Below wb.heap.size wb w) (h2 : Below w.heap.size w w') : Below wb.heap.size wb w' := h.trans (h2.mono h.size)
namespace Tr
theorem E.deep_pos (e : E) : 1 ≤ e.deep := by cases e; unfold E.deep; omega
theorem leftEs_neg {n : Int} (h : n < 0) : ∀ l, leftEs l n = n
 | [] => rfl
 | e :: r => by rw [leftEs, if_pos h]
theorem leftEs_cons {n : Int} (h : 0 ≤ n) (e : E) (r : List E) : leftEs (e :: r) n = leftEs r (leftE e n) := by rw [leftEs, if_neg (by omega)]
mutual
theorem leftE_bd : ∀ (e : E) (n : Int), 0 ≤ n → -1 ≤ leftE e n ∧ leftE e n ≤ n
 | .mk k o i nm a l, n, h => by
   rw [leftE]
   split
   ·omega
   ·have := leftEs_bd l (n - 1) (by omega)
    omega
theorem leftEs_bd : ∀ (l : List E) (n : Int), -1 ≤ n → -1 ≤ leftEs l n ∧ leftEs l n ≤ n
 | [], n, h => by rw [leftEs]; omega
 | e :: r, n, h => by
   by_cases hn : n < 0
   ·rw [leftEs_neg hn]; omega
   ·rw [leftEs_cons (by omega)]
    have h1 := leftE_bd e n (by omega)
    have h2 := leftEs_bd r (leftE e n) h1.1
    omega
end
end Tr
namespace Tr
theorem leftSs_neg {n : Int} (h : n < 0) : ∀ l, leftSs l n = n
 | [] => rfl
 | e :: r => by rw [leftSs, if_pos h]
theorem leftSs_cons {n : Int} (h : 0 ≤ n) (e : S) (r : List S) : leftSs (e :: r) n = leftSs r (leftS e n) := by rw [leftSs, if_neg (by omega)]
mutual
theorem leftS_bd : ∀ (e : S) (n : Int), 0 ≤ n → -1 ≤ leftS e n ∧ leftS e n ≤ n
 | .mk k nm x b l, n, h => by
   rw [leftS]
   split
   ·omega
   ·have h1 := leftEs_bd x (n - 1) (by omega)
    simp only []
    by_cases c1 : 0 ≤ leftEs x (n - 1)
    ·rw [if_pos c1]
     have h2 := leftSs_bd b (leftEs x (n - 1)) h1.1
     by_cases c2 : 0 ≤ leftSs b (leftEs x (n - 1))
     ·rw [if_pos c2]
      have h3 := leftSs_bd l _ h2.1
      omega
     ·rw [if_neg c2]; omega
    ·rw [if_neg c1, if_neg c1]; omega
theorem leftSs_bd : ∀ (l : List S) (n : Int), -1 ≤ n → -1 ≤ leftSs l n ∧ leftSs l n ≤ n
 | [], n, h => by rw [leftSs]; omega
 | e :: r, n, h => by
   by_cases hn : n < 0
   ·rw [leftSs_neg hn]; omega
   ·rw [leftSs_cons (by omega)]
    have h1 := leftS_bd e n (by omega)
    have h2 := leftSs_bd r (leftS e n) h1.1
    omega
end
theorem S.deep_pos (e : S) : 1 ≤ e.deep := by cases e; unfold S.deep; omega
theorem S.deep_in {l : List S} {d j : Nat} {x : S} (h : S.deep.deeps l ≤ d) (hj : l[j]? = some x) : 1 ≤ d ∧ S.deep.deeps x.body ≤ d - 1 ∧ S.deep.deeps x.els ≤ d - 1 := by
 have h1 := S.deeps_get l j x hj
 have h2 := x.deep_pos
 obtain ⟨m, hm⟩ : ∃ m, d = m + 1 := ⟨d - 1, by omega⟩
 subst hm
 exact ⟨by omega, S.deep_body (by omega), S.deep_els (by omega)⟩
end Tr
end Go.Proofs.YtdckddkalgnlpaaGreatDoor
namespace Go.Proofs.YtdckddkalgnlpaaGreatDoor
open Go.RowKit
theorem data_len (s : ByteArray) : s.data.toList.length = s.size := (Lib.size_eq s).symm
theorem all_get {α : Type} {p : α → Bool} {l : List α} {n : Nat} (hn : l.length = n) (h : ∀ j x, j < n → l[j]? = some x → p x = true) : l.all p = true := by
 rw [List.all_eq_true]
 intro x hx
 obtain ⟨j, hj, e⟩ := List.mem_iff_getElem.1 hx
 exact h j x (by omega) (by rw [List.getElem?_eq_getElem hj, e])
theorem all_no {α : Type} {p : α → Bool} {l : List α} {j : Nat} {x : α} (hj : l[j]? = some x) (h : p x = false) : l.all p = false := by
 rw [List.all_eq_false]
 exact ⟨x, List.mem_of_getElem? hj, by rw [h]; simp⟩
theorem boxE_cell (w : World) (k o i : Int) (nm : ByteArray) (a : Bool) (v : Value) : ∀ (j : Nat) (u : Value), (#[.int .i64 k, .int .i64 o, .int .i64 i, .string nm, .bool a, v] : Array Value)[j]? = some u → (w.alloc (.cells #[.int .i64 k, .int .i64 o, .int .i64 i, .string nm, .bool a, v] 33)).cell? ⟨w.heap.size, j, none⟩ = some u := fun j u h => box_cell w _ _ j u h
theorem validEs_at {l : List Tr.E} {j : Nat} {x : Tr.E} (h : l[j]? = some x) (hv : Tr.validE x = false) : Tr.validEs l = false := by
 rw [Tr.validEs_all]; exact all_no h hv
theorem validEs_yes {l : List Tr.E} {n : Nat} (hn : l.length = n) (h : ∀ j x, j < n → l[j]? = some x → Tr.validE x = true) : Tr.validEs l = true := by
 rw [Tr.validEs_all]; exact all_get hn h
theorem isE_dec (nm : ByteArray) : nm.toList.isEmpty = decide (nm.size = 0) := by
 have h1 := bytes_beq nm ⟨#[]⟩
 have h2 : (⟨#[]⟩ : ByteArray).toList = [] := by first | rfl | simp | decide +kernel
 have h3 : nm.toList.isEmpty = (nm.toList == []) := by cases nm.toList <;> rfl
 rw [h3, ← h2, h1]
 rw [Bool.eq_iff_iff, decide_eq_true_eq, decide_eq_true_eq]
 constructor
 ·rintro rfl; rfl
 ·intro h
  cases nm with
  | mk d =>
    have : d = #[] := Array.eq_empty_of_size_eq_zero h
    rw [this]
theorem isE_eq {nm : ByteArray} (h : nm.toList.isEmpty = true) : nm.size = 0 := by rw [isE_dec] at h; exact of_decide_eq_true h
theorem size_nz {nm : ByteArray} (h : nm.toList.isEmpty = false) : ¬ nm.size = 0 := by rw [isE_dec] at h; exact of_decide_eq_false h
theorem okE_0 (i : Int) (nm : ByteArray) (n : Nat) : Tr.okE 0 0 i nm false n = decide (n = 0 ∧ nm.size = 0 ∧ 0 ≤ i ∧ i ≤ 2305843009213693951) := by
 unfold Tr.okE
 rw [if_pos rfl, Bool.and_false, decide_eq_false (fun h => h.1 rfl), decide_eq_false (fun h => h.2 rfl)]
 rfl
theorem okE_10 (o : Int) (nm : ByteArray) (n : Nat) : Tr.okE 10 o 0 nm false n = decide (n = 2 ∧ nm.size = 0 ∧ 0 ≤ o ∧ o ≤ 12) := by
 unfold Tr.okE
 rw [Bool.and_false, decide_eq_false (p := (10 : Int) ≠ 0 ∧ (0 : Int) ≠ 0) (fun h => h.2 rfl), decide_eq_false (p := (10 : Int) ≠ 10 ∧ o ≠ 0) (fun h => h.1 rfl)]
 rfl
theorem okE_other {k : Int} {nm : ByteArray} {n : Nat} (h : k < 0 ∨ 10 < k) : Tr.okE k 0 0 nm false n = false := by
 unfold Tr.okE
 rw [if_neg (by omega), if_neg (by omega), if_neg (by omega), if_neg (by omega), if_neg (by omega), if_neg (by omega), if_neg (by omega), if_neg (by omega), if_neg (by omega), if_neg (by omega), if_neg (by omega), Bool.and_false]
def stmtV (s : Tr.S) (x y z : Value) : Value := .agg #[.int .i64 s.kind, .string s.name, x, y, z]
section
variable (nm : ByteArray) (n nb ne : Nat)
theorem okS_0 : Tr.okS 0 nm n nb ne = (decide (n = 1 ∧ nb = 0 ∧ ne = 0) && Tr.varB nm) := rfl
theorem okS_1 : Tr.okS 1 nm n nb ne = (decide (n = 1 ∧ nb = 0 ∧ ne = 0) && Tr.varB nm) := rfl
theorem okS_2 : Tr.okS 2 nm n nb ne = (decide (n = 2 ∧ nb = 0 ∧ ne = 0) && Tr.varB nm) := rfl
theorem okS_3 : Tr.okS 3 nm n nb ne = decide (n = 1 ∧ nm.size = 0) := rfl
theorem okS_4 : Tr.okS 4 nm n nb ne = decide (n = 1 ∧ nm.size = 0 ∧ ne = 0) := rfl
theorem okS_5 : Tr.okS 5 nm n nb ne = (decide (1 ≤ n ∧ nb = 0 ∧ ne = 0) && Tr.varB nm) := rfl
theorem okS_6 : Tr.okS 6 nm n nb ne = decide (n = 1 ∧ nm.size = 0 ∧ nb = 0 ∧ ne = 0) := rfl
theorem okS_7 : Tr.okS 7 nm n nb ne = decide (n = 2 ∧ nm.size = 0 ∧ nb = 0 ∧ ne = 0) := rfl
theorem okS_8 : Tr.okS 8 nm n nb ne = (decide (n = 2 ∧ nb = 0 ∧ ne = 0) && Tr.varB nm) := rfl
theorem okS_9 : Tr.okS 9 nm n nb ne = decide (n = 0 ∧ nm.size = 0 ∧ nb = 0 ∧ ne = 0) := rfl
theorem okS_other {k : Int} {nm : ByteArray} {n nb ne : Nat} (h : k < 0 ∨ 9 < k) : Tr.okS k nm n nb ne = false := by
 unfold Tr.okS
 rw [if_neg (by omega), if_neg (by omega), if_neg (by omega), if_neg (by omega), if_neg (by omega), if_neg (by omega), if_neg (by omega), if_neg (by omega), if_neg (by omega), if_neg (by omega)]
end
theorem SlStr.form {w : World} {v : Value} {l : List ByteArray} (h : SlStr w v l) : ∃ p c, v = .slice p l.length c := by
 obtain ⟨p, c, e, _⟩ := h; exact ⟨p, c, e⟩
theorem SlM.form {w : World} {v : Value} {l : List Tr.M} (h : SlM w v l) : ∃ p c, v = .slice p l.length c := by
 obtain ⟨p, c, e, _⟩ := h; exact ⟨p, c, e⟩
theorem SlM.len {w : World} {v : Value} {l : List Tr.M} (h : SlM w v l) : l.length ≤ maxLen := by
 obtain ⟨p, c, e, h1, _⟩ := h; exact h1
theorem SlM.get {w : World} {p : Option Addr} {n c : Nat} {l : List Tr.M} (h : SlM w (.slice p n c) l) {j : Nat} {m : Tr.M} (hj : l[j]? = some m) :
 ∃ b o x y, p = some ⟨b, o, none⟩ ∧ b < w.heap.size ∧ CellsM w b (o + j * 3) m x y ∧ m.name.size ≤ maxLen ∧ SlStr w x m.params ∧ SlS w y m.body := by
 obtain ⟨p', c', e, _, _, hx⟩ := h
 cases e
 obtain ⟨h1, b, o, x, y, h2, h3, h4, h5, h6⟩ := hx j m hj
 exact ⟨b, o, x, y, h2, h3, h4, h1, h5, h6⟩
theorem SlC.form {w : World} {v : Value} {l : List Tr.C} (h : SlC w v l) : ∃ p c, v = .slice p l.length c := by
 obtain ⟨p, c, e, _⟩ := h; exact ⟨p, c, e⟩
theorem SlC.len {w : World} {v : Value} {l : List Tr.C} (h : SlC w v l) : l.length ≤ maxLen := by
 obtain ⟨p, c, e, h1, _⟩ := h; exact h1
theorem SlC.get {w : World} {p : Option Addr} {n c : Nat} {l : List Tr.C} (h : SlC w (.slice p n c) l) {j : Nat} {m : Tr.C} (hj : l[j]? = some m) :
 ∃ b o x y, p = some ⟨b, o, none⟩ ∧ b < w.heap.size ∧ CellsC w b (o + j * 4) m x y ∧ m.name.size ≤ maxLen ∧ SlStr w x m.fields ∧ SlM w y m.methods := by
 obtain ⟨p', c', e, _, _, hx⟩ := h
 cases e
 obtain ⟨h1, b, o, x, y, h2, h3, h4, h5, h6⟩ := hx j m hj
 exact ⟨b, o, x, y, h2, h3, h4, h1, h5, h6⟩
end Go.Proofs.YtdckddkalgnlpaaGreatDoor
namespace Go.Proofs.YtdckddkalgnlpaaGreatDoor
open Go.RowKit
theorem cell_of_blkP {w : World} {g : Nat} {cur : Array Value} {t : TypeId} {r : Nat × Nat} (h : w.heap[g]? = some (.cells cur t r)) {j : Nat} {u : Value} (hu : cur[j]? = some u) : w.cell? ⟨g, j, none⟩ = some u := by simp [World.cell?, h, hu]
structure PrAt (B b : Nat) (p : Value) (l : List UInt8) (deep : Int) (w : World) : Prop where
 hB : B ≤ b
 ex : ∃ v, w.heap[b]? = some (.cells #[p, v, .int .i64 deep] 87 (0, 0)) ∧ w.ownsRow B 5 1 v l.length (Lib.byteCells l) ∧ (l = [] → v = .slice none 0 0)
def PrSt (B b : Nat) (l : List UInt8) (deep : Int) (w : World) : Prop := PrAt B b (.pointer none) l deep w ∨ PrAt B b (.pointer (some ⟨b, 0, none⟩)) l deep w
structure Pk (B b : Nat) (w w' : World) : Prop where
 below : Below B w w'
 others : Lib.OthersKept 5 (some b) w w'
theorem Pk.refl (B b : Nat) (w : World) : Pk B b w w := ⟨Below.refl _ _, Lib.OthersKept.refl _ _ _⟩
theorem Pk.trans {B b : Nat} {u v w : World} (h : Pk B b u v) (k : Pk B b v w) : Pk B b u w := ⟨h.below.trans k.below, h.others.trans k.others⟩
theorem Pk.drew {B b : Nat} {u v : World} (h : Pk B b u v) : Pk B b u v.drew := ⟨h.below.drew, h.others.drew⟩
theorem Pk.alloc {B b : Nat} {u v : World} (h : Pk B b u v) (hB : B ≤ v.heap.size) (o : Obj) : Pk B b u (v.alloc o) := ⟨h.below.alloc hB o, h.others.alloc o⟩
theorem Pk.set {B b : Nat} {u v : World} (h : Pk B b u v) (hB : B ≤ b) (i : Nat) (x : Value) : Pk B b u (v.setCell ⟨b, i, none⟩ x) := ⟨h.below.setCell (p := ⟨b, i, none⟩) hB x, h.others.setCell ⟨b, i, none⟩ rfl x⟩
theorem own_kind {w : World} {B : Nat} {e : TypeId} {v : Value} {n : Nat} {xs : List Value} (h : w.ownsRow B e 1 v n xs) : ∀ g, v.ownBlock = some g → ∃ c fz, w.heap[g]? = some (.cells c e fz) := by
 intro g hg
 rcases h.2 with ⟨rfl, _⟩ | ⟨g', cap, cur, rfl, _, hgg, _⟩
 ·simp [Value.ownBlock] at hg
 ·simp only [Value.ownBlock, Option.some.injEq] at hg; subst hg; exact ⟨_, _, hgg⟩
theorem Pk.grown {B b : Nat} {u v w : World} {x : Value} {n : Nat} {xs : List Value} (h : Pk B b u v) (hg : v.grownBy w x.ownBlock) (hB : B ≤ v.heap.size) (ho : v.ownsRow B 5 1 x n xs) : Pk B b u w :=
 ⟨h.below.grown hg hB (fun q hq => (ho.lt q hq).1), h.others.grown hg (own_kind ho)⟩
section
variable {B b : Nat} {p : Value} {l : List UInt8} {deep : Int} {w w' : World}
theorem PrAt.lt (h : PrAt B b p l deep w) : b < w.heap.size := by
 obtain ⟨v, hb, _⟩ := h.ex
 exact (Array.getElem?_eq_some_iff.1 hb).1
theorem PrSt.lt (h : PrSt B b l deep w) : b < w.heap.size := h.elim (·.lt) (·.lt)
theorem PrSt.hB (h : PrSt B b l deep w) : B ≤ b := h.elim (·.hB) (·.hB)
theorem PrAt.shape (h : PrAt B b p l deep w) : w.shape? b = some (87, 3) := by
 obtain ⟨v, hb, _⟩ := h.ex
 simp [World.shape?, hb]
theorem PrAt.cell0 (h : PrAt B b p l deep w) : w.cell? ⟨b, 0, none⟩ = some p := by
 obtain ⟨v, hb, _⟩ := h.ex
 simp [World.cell?, hb]
theorem PrAt.cell2 (h : PrAt B b p l deep w) : w.cell? ⟨b, 2, none⟩ = some (.int .i64 deep) := by
 obtain ⟨v, hb, _⟩ := h.ex
 simp [World.cell?, hb]
theorem PrSt.cell2 (h : PrSt B b l deep w) : w.cell? ⟨b, 2, none⟩ = some (.int .i64 deep) := h.elim (·.cell2) (·.cell2)
theorem PrAt.free (h : PrAt B b p l deep w) (i : Nat) : w.frozen? ⟨b, i, none⟩ = false := by
 obtain ⟨v, hb, _⟩ := h.ex
 simp [World.frozen?, hb]
theorem PrSt.free (h : PrSt B b l deep w) (i : Nat) : w.frozen? ⟨b, i, none⟩ = false := h.elim (·.free i) (·.free i)
theorem row_ne {v : Value} {n : Nat} {xs : List Value} {cs : Array Value} {T : TypeId} (ho : w.ownsRow B 5 1 v n xs) (hb : w.heap[b]? = some (.cells cs T (0, 0))) (hT : T ≠ 5) : v.ownBlock ≠ some b := Lib.ownBlock_ne ho hb hT
theorem PrAt.next (h : PrAt B b p l deep w) (hb : Below w.heap.size w w') : PrAt B b p l deep w' := by
 obtain ⟨v, hc, ho, hn⟩ := h.ex
 exact ⟨h.hB, v, (hb.block b h.lt).trans hc, own_below ho hb, hn⟩
theorem PrSt.next (h : PrSt B b l deep w) (hb : Below w.heap.size w w') : PrSt B b l deep w' := h.imp (·.next hb) (·.next hb)
theorem PrAt.set0 (h : PrAt B b p l deep w) (q : Value) : PrAt B b q l deep (w.setCell ⟨b, 0, none⟩ q) := by
 obtain ⟨v, hb, ho, hn⟩ := h.ex
 refine ⟨h.hB, v, ?_, ?_, hn⟩
 ·simp [World.setCell, Array.getElem?_modify, hb]
 ·exact ho.kept (row := some b) ⟨rfl, rfl, rfl, by simp [World.setCell], fun k _ hk => Below.heap_setCell _ _ _ _ (fun e => hk (by simp [e]))⟩ (Or.inr (row_ne ho hb (by decide)))
theorem PrAt.set2 (h : PrAt B b p l deep w) (d : Int) : PrAt B b p l d (w.setCell ⟨b, 2, none⟩ (.int .i64 d)) := by
 obtain ⟨v, hb, ho, hn⟩ := h.ex
 refine ⟨h.hB, v, ?_, ?_, hn⟩
 ·simp [World.setCell, Array.getElem?_modify, hb]
 ·exact ho.kept (row := some b) ⟨rfl, rfl, rfl, by simp [World.setCell], fun k _ hk => Below.heap_setCell _ _ _ _ (fun e => hk (by simp [e]))⟩ (Or.inr (row_ne ho hb (by decide)))
theorem PrSt.set2 (h : PrSt B b l deep w) (d : Int) : PrSt B b l d (w.setCell ⟨b, 2, none⟩ (.int .i64 d)) := h.imp (·.set2 d) (·.set2 d)
theorem Pk.box (h : Pk B b w w') {k : Nat} {cs : Array Value} {T : TypeId} (hk : w.heap[k]? = some (.cells cs T (0, 0))) (hkb : k ≠ b) (hT : T ≠ 5) : w'.heap[k]? = some (.cells cs T (0, 0)) :=
 h.others k _ hk (fun e => hkb (Option.some.inj e)) (fun c fz e => by injection e with _ e2; exact hT e2)
end
theorem byteCells_app (l r : List UInt8) : Lib.byteCells (l ++ r) = Lib.byteCells l ++ Lib.byteCells r := by unfold Lib.byteCells; rw [List.map_append]
theorem builderInfo : (Tryz.prog.info? 85).map (·.size) = some 2 := by kernel_rfl
theorem byteInfo : (Tryz.prog.info? 5).map (fun i => (i.zero, i.size, i.bytes)) = some (some (.int .u8 0), 1, 1) := by kernel_rfl
theorem byteCellsOf : Tryz.prog.cellsOf 5 = 1 := by kernel_rfl
theorem liesPrinter : liesAt Tryz.prog Tryz.prog.depth 87 (3 / Tryz.prog.cellsOf 87) 0 85 1 = true := by kernel_rfl
set_option maxHeartbeats 1000000 in
set_option maxRecDepth 100000 in
theorem ccheck_any {B b : Nat} {l : List UInt8} {deep : Int} (w : World) (h : PrSt B b l deep w) :
 Calls Tryz.prog 139 #[.pointer (some ⟨b, 0, none⟩)] w fun e w' => e = .returned (.tuple #[]) ∧ PrAt B b (.pointer (some ⟨b, 0, none⟩)) l deep w' ∧ Pk B b w w' := by
 obtain ⟨j, hj, hjs⟩ := Option.map_eq_some_iff.1 builderInfo
 rcases h with h | h
 ·have h0 := h.cell0
  have hsh := h.shape
  have hfz := h.free 0
  have HH := Lib.hid h
  clear h
  go_enter Tryz.func139, Tryz.ntmps139
  go_wp2
  rw [Lib.run_to_unsafe w ⟨b, 0, none⟩ Tryz.underlying82 Tryz.underlying179 hj (by rw [hjs]; decide) hsh (by decide : 0 < 3)]
  simp only [Result.andThen]
  rw [Oper.upon_value]
  go_wp2
  rw [run_callFunc_extern Tryz.func168 (by kernel_rfl) (by kernel_rfl) (by kernel_rfl) (e := Extern.AbiNoEscape.same) (by kernel_rfl)]
  rw [Lib.run_noEscape]
  simp only [Result.andThen]
  rw [Oper.upon_value]
  go_wp2
  rw [Lib.run_from_unsafe w ⟨b, 0, none⟩ Tryz.underlying179 Tryz.underlying82 hj hsh liesPrinter]
  simp only [Result.andThen]
  rw [Oper.upon_value]
  go_wp2
  go_end0
  exact ⟨rfl, HH.out.set0 _, (Pk.refl B b w).set HH.out.hB 0 _⟩
 ·have h0 := h.cell0
  have HH := Lib.hid h
  clear h
  go_enter Tryz.func139, Tryz.ntmps139
  go_wp2
  rw [Lib.run_neq_ptr_same w _ Tryz.underlying82 hj]
  go_wp2
  go_end0
  exact ⟨rfl, HH.out, Pk.refl _ _ _⟩
set_option maxHeartbeats 2000000 in
set_option maxRecDepth 100000 in
theorem writeStr_any {B b : Nat} {l : List UInt8} {deep : Int} (s : ByteArray) (w : World) (h : PrSt B b l deep w) (hlen : l.length + s.size ≤ 140737488355328) (hBw : B ≤ w.heap.size) :
 Calls Tryz.prog 88 #[.pointer (some ⟨b, 0, none⟩), .string s] w fun e w' => e = .returned (.tuple #[.int .i64 s.size, .nilIface]) ∧ PrSt B b (l ++ s.data.toList) deep w' ∧ Pk B b w w' := by
 obtain ⟨i0, hi, hz0, hz1, hz2⟩ := info_parts byteInfo
 have HC := Lib.hid (ccheck_any w h)
 clear h
 go_enter Tryz.func88, Tryz.ntmps88
 go_wp2_with fail
 refine HC.out.mono ?_
 rintro e w1 ⟨rfl, h1, k1⟩
 obtain ⟨v, hbk, hown, hnil⟩ := h1.ex
 have c0 := cell_of_blkP hbk (j := 0) rfl
 have c1 := cell_of_blkP hbk (j := 1) rfl
 have HNIL := Lib.hid hnil
 have hB := h1.hB
 have hb1 := k1.below.size
 go_wp2_with (at_builtin; refine Lib.wpList_append_own_string _ rfl _ _ 83 9 rfl B 5 i0 Tryz.underlying83 Tryz.underlying9 hi hz0 hz1 hz2 _ _ _ rfl hown s rfl ?c3 ?c4 ?c5 ?_)
 case c3 => unfold maxLen; omega
 case c4 => omega
 case c5 => omega
 intro v' w2 hown' hgrow hn
 have hne : v.ownBlock ≠ some b := row_ne hown hbk (by decide)
 have hlt := h1.lt
 have hb2 : w2.heap[b]? = some (.cells #[.pointer (some ⟨b, 0, none⟩), v, .int .i64 deep] 87 (0, 0)) := (hgrow.block b hlt (fun e => hne e.symm)).trans hbk
 have d0 := cell_of_blkP hb2 (j := 0) rfl
 have d1 := cell_of_blkP hb2 (j := 1) rfl
 have f1 : w2.frozen? ⟨b, 1, none⟩ = false := by simp [World.frozen?, hb2]
 obtain ⟨ao, n', cap, rfl⟩ : ∃ ao n' cap, v' = .slice ao n' cap := by
  rcases hown'.2 with ⟨hv, _⟩ | ⟨g, cap, cur, hv, _⟩
  ·exact ⟨_, _, _, hv⟩
  ·exact ⟨_, _, _, hv⟩
 have HK := Lib.hid ((k1.grown hgrow (by omega) hown).set hB 1 (.slice ao n' cap))
 have HO := Lib.hid hown'
 have HN := Lib.hid hn
 have HB2 := Lib.hid hb2
 clear hown' hn hown hgrow k1 h1 c0 c1 hbk hnil
 go_wp2_with fail
 go_ret2
 refine ⟨rfl, Or.inr ⟨hB, .slice ao n' cap, ?_, ?_, ?_⟩, HK.out⟩
 ·have := HB2.out
  simp [World.setCell, Array.getElem?_modify, this]
 ·have ho : w2.ownsRow B 5 1 (.slice ao n' cap) (l ++ s.data.toList).length (Lib.byteCells (l ++ s.data.toList)) := by
   rw [List.length_append, byteCells_app]
   exact HO.out
  exact ho.kept (row := some b) ⟨rfl, rfl, rfl, by simp [World.setCell], fun k _ hk => Below.heap_setCell _ _ _ _ (fun e => hk (by simp [e]))⟩ (Or.inr (row_ne ho HB2.out (by decide)))
 ·intro h0
  have h1 := List.append_eq_nil_iff.1 h0
  refine HN.out.2 ⟨HNIL.out h1.1, ?_⟩
  exact ByteArray.ext (Array.toList_eq_nil_iff.1 h1.2)
theorem cellAt_run (w : World) (b : Nat) (p v : Value) (deep : Int) (h : w.heap[b]? = some (.cells #[p, v, .int .i64 deep] 87 (0, 0))) : w.drew.cell? ⟨b, 1, none⟩ = some v := by
 have : w.drew.heap[b]? = some (.cells #[p, v, .int .i64 deep] 87 (0, 0)) := h
 rw [Lib.cell_of_heap this]; rfl
set_option maxHeartbeats 2000000 in
set_option maxRecDepth 100000 in
theorem prString_any {B b : Nat} {l : List UInt8} {deep : Int} (w : World) (h : PrSt B b l deep w) :
 Calls Tryz.prog 45 #[.pointer (some ⟨b, 0, none⟩)] w fun e w' => e = .returned (.string ⟨l.toArray⟩) ∧ Below B w w' := by
 obtain ⟨p, hA⟩ : ∃ p, PrAt B b p l deep w := by
  rcases h with h | h
  ·exact ⟨_, h⟩
  ·exact ⟨_, h⟩
 obtain ⟨v, hbk, hown, hnil⟩ := hA.ex
 clear h
 by_cases h0 : l = []
 ·subst h0
  obtain rfl := hnil rfl
  have hUS : ∀ W, (Builtin.unsafeString_ #[128, 3] 9 #[.pointer none, .int .i64 0]).run Tryz.prog W = .ok (.string .empty) W := fun W => Lib.run_unsafeString_none W _ _ _ none
  have c1 := cellAt_run w b p _ deep hbk
  have hSD : (Builtin.unsafeSliceData_ #[83] 128 #[.slice none 0 0]).run Tryz.prog w.drew = .ok (.pointer none) w.drew := rfl
  clear hown hA hnil hbk
  go_enter Tryz.func45, Tryz.ntmps45
  go_wp2
  go_region
  all_goals (go_wp2; go_ret; exact ⟨rfl, Below.drew (Below.refl B w)⟩)
 ·have hl0 : l.length ≠ 0 := by simpa using h0
  obtain ⟨g, cap, cur, rfl, hbg, hg, hnc, hcm, hcs, htake⟩ : ∃ g cap cur, v = .slice (some ⟨g, 0, none⟩) l.length cap ∧ B ≤ g ∧ w.heap[g]? = some (.cells cur 5 (0, 0)) ∧ l.length ≤ cap ∧ cap ≤ maxLen ∧ cur.size = cap * 1 ∧ cur.toList.take (l.length * 1) = Lib.byteCells l := by
   rcases hown.2 with ⟨_, hz⟩ | ⟨g, cap, cur, hv, r⟩
   ·exact absurd hz hl0
   ·exact ⟨g, cap, cur, hv, r⟩
  have c1 := cellAt_run w b p _ deep hbk
  have hSD : (Builtin.unsafeSliceData_ #[83] 128 #[.slice (some ⟨g, 0, none⟩) l.length cap]).run Tryz.prog w.drew = .ok (.pointer (some ⟨g, 0, none⟩)) w.drew :=
   Lib.run_unsafeSliceData_row _ _ _ _ _ _ (by omega)
  have hUS : (Builtin.unsafeString_ #[128, 3] 9 #[.pointer (some ⟨g, 0, none⟩), .int .i64 l.length]).run Tryz.prog w.drew = .ok (.string ⟨l.toArray⟩) (w.drew.freeze ⟨g, 0, none⟩ l.length) := by
   refine Lib.run_unsafeString_row w.drew 128 3 9 5 Tryz.underlying128 byteCellsOf g cur.size (by have hg' : w.drew.heap[g]? = some (.cells cur 5 (0, 0)) := hg; simp [World.shape?, hg']) l h0 (by omega) (by unfold maxLen at hcm; omega) ?_
   intro j x hx
   have := hown.cells (g := g) rfl j (.int .u8 x.toNat) (by simp [Lib.byteCells, hx])
   exact this
  have HBG := Lib.hid hbg
  clear hown hA hnil hbk hg hnc hcm hcs htake hbg h0 hl0
  go_enter Tryz.func45, Tryz.ntmps45
  go_wp2
  go_region
  all_goals (go_wp2; go_ret; exact ⟨rfl, Lib.below_freeze (Below.drew (Below.refl B w)) (p := ⟨g, 0, none⟩) HBG.out _⟩)
end Go.Proofs.YtdckddkalgnlpaaGreatDoor
namespace Go.Proofs.YtdckddkalgnlpaaGreatDoor
namespace Tr
def tokB (k : Nat) (l : List UInt8) : Bool :=
 match Lex.scan l with
 | .toks (t :: _) => t.kind == k && decide (t.text = l)
 | _ => false
theorem letter_nat (c : UInt8) : Lex.letter c = true ↔ (97 ≤ c.toNat ∧ c.toNat ≤ 122 ∨ 65 ≤ c.toNat ∧ c.toNat ≤ 90) := by unfold Lex.letter; rw [decide_eq_true_eq]
theorem skip_letter {c : UInt8} {r : List UInt8} (h : Lex.letter c = true) : Lex.skip false (c :: r) = c :: r := by
 rw [letter_nat] at h
 have h1 : Lex.space c = false := by unfold Lex.space; rw [decide_eq_false_iff_not]; omega
 rw [Lex.skip, h1]
 simp only [Bool.false_eq_true, if_false]
 rw [if_neg (by omega)]
theorem takeWhile_all {p : UInt8 → Bool} : ∀ {l : List UInt8}, l.all p = true → l.takeWhile p = l
 | [], _ => rfl
 | c :: r, h => by
   rw [List.all_cons, Bool.and_eq_true] at h
   rw [List.takeWhile_cons, if_pos h.1, takeWhile_all h.2]
theorem all_of_takeWhile {p : UInt8 → Bool} : ∀ {l : List UInt8}, l.takeWhile p = l → l.all p = true
 | [], _ => rfl
 | c :: r, h => by
   rw [List.takeWhile_cons] at h
   by_cases hc : p c = true
   ·rw [if_pos hc] at h
    rw [List.all_cons, hc, all_of_takeWhile (List.cons.inj h).2]; rfl
   ·rw [if_neg hc] at h; cases h
theorem scan_name {k : Nat} {l : List UInt8} (hl : l.length ≤ 31) (hh : Lex.letter (l.headD 0) = true) (h : Lex.nameAt l = .tok k l 0) (hne : l ≠ []) : tokB k l = true := by
 obtain ⟨c, r, rfl⟩ : ∃ c r, l = c :: r := by cases l with | nil => exact absurd rfl hne | cons c r => exact ⟨c, r, rfl⟩
 have hn : Lex.next (c :: r) = .tok k (c :: r) 0 := by unfold Lex.next; rw [if_pos hh]; exact h
 have hs : Lex.scan (c :: r) = .toks (⟨k, c :: r, 0, 0⟩ :: [⟨0, [], 0, (c :: r).length⟩]) := by
  unfold Lex.scan
  rw [if_neg (by omega), skip_letter (by simpa using hh)]
  rw [show (c :: r).length = r.length + 1 from rfl, Lex.scanF, hn]
  simp only []
  rw [List.drop_eq_nil_of_le (by simp)]
  rw [show Lex.skip false [] = [] from rfl, Lex.scanF_nil]
  simp
 unfold tokB
 rw [hs]
 simp
theorem next_of_tokB {k : Nat} {l : List UInt8} (h : tokB k l = true) (hk : 0 < k) : l ≠ [] ∧ ∃ v, Lex.next l = .tok k l v := by
 unfold tokB at h
 cases hs : Lex.scan l with
 | bad a e => rw [hs] at h; cases h
 | toks ts =>
   rw [hs] at h
   cases ts with
   | nil => cases h
   | cons t ts =>
     simp only [Bool.and_eq_true, beq_iff_eq, decide_eq_true_eq] at h
     obtain ⟨h1, h2⟩ := h
     unfold Lex.scan at hs
     split at hs
     ·cases hs
     ·have hle := Lex.skip_le false l
      cases hm : Lex.skip false l with
      | nil =>
        rw [hm, Lex.scanF_nil] at hs
        cases hs
        simp at h1
        omega
      | cons c r =>
        rw [hm] at hs hle
        cases hf : l.length with
        | zero => rw [hf] at hle; simp at hle
        | succ f =>
          rw [hf, Lex.scanF] at hs
          cases hn : Lex.next (c :: r) with
          | bad e => rw [hn] at hs; cases hs
          | tok k' t' v' =>
            rw [hn] at hs
            simp only [] at hs
            cases hr : Lex.scanF (f + 1) f (Lex.skip false ((c :: r).drop t'.length)) with
            | bad a e => rw [hr] at hs; cases hs
            | toks l' =>
              rw [hr] at hs
              simp only [Lex.Res.toks.injEq, List.cons.injEq] at hs
              obtain ⟨ht, _⟩ := hs
              rw [← ht] at h1 h2
              simp only [] at h1 h2
              subst h1
              obtain ⟨x1, x2, x3⟩ := Lex.next_text hn
              rw [h2] at x1 x3
              have : l = c :: r := by rw [x1]; exact List.take_of_length_le hle
              rw [h2] at hn
              rw [← this] at hn
              exact ⟨by rw [this]; simp, v', hn⟩
theorem tokB_name {k lo hi : Nat} (hk : k = 2 ∧ lo = 97 ∧ hi = 122 ∨ k = 3 ∧ lo = 65 ∧ hi = 90) (l : List UInt8) : tokB k l = nameL lo hi l := by
 rw [Bool.eq_iff_iff]
 constructor
 ·intro h
  obtain ⟨hne, v, hn⟩ := next_of_tokB h (by omega)
  unfold Lex.next at hn
  split at hn
  ·rename_i hl
   unfold Lex.nameAt at hn
   simp only [] at hn
   split at hn
   ·cases hn
   ·rename_i h31
    split at hn
    ·have := (Lex.Got.tok.inj hn).1; omega
    ·rename_i hkw
     have hw : l.takeWhile Lex.wordc = l := by
      split at hn <;> exact (Lex.Got.tok.inj hn).2.1
     have hall := all_of_takeWhile hw
     rw [hw] at h31 hkw hn
     rw [letter_nat] at hl
     unfold nameL
     rw [hall, Bool.and_true, Bool.and_eq_true, decide_eq_true_eq]
     refine ⟨⟨hne, by omega, ?_⟩, by simpa using hkw⟩
     split at hn
     ·rename_i h90
      have := (Lex.Got.tok.inj hn).1
      omega
     ·rename_i h90
      have := (Lex.Got.tok.inj hn).1
      omega
  ·split at hn
   ·unfold Lex.numberAt at hn
    simp only [] at hn
    (repeat' split at hn) <;> first | (have := (Lex.Got.tok.inj hn).1; omega) | cases hn
   ·unfold Lex.symbolAt at hn
    (repeat' split at hn) <;> first | (have := (Lex.Got.tok.inj hn).1; omega) | cases hn
 ·intro h
  unfold nameL at h
  rw [Bool.and_eq_true, Bool.and_eq_true, decide_eq_true_eq] at h
  obtain ⟨⟨⟨hne, h31, h1, h2⟩, hkw⟩, hall⟩ := h
  have hw := takeWhile_all hall
  refine scan_name h31 ?_ ?_ hne
  ·rw [letter_nat]; omega
  ·unfold Lex.nameAt
   rw [hw]
   simp only []
   rw [if_neg (by omega), if_neg (by simpa using hkw)]
   rcases hk with ⟨rfl, rfl, rfl⟩ | ⟨rfl, rfl, rfl⟩
   ·rw [if_neg (by omega)]
   ·rw [if_pos (by omega)]
theorem tokB_var (s : ByteArray) : tokB 2 s.data.toList = varB s := tokB_name (.inl ⟨rfl, rfl, rfl⟩) _
theorem tokB_cls (s : ByteArray) : tokB 3 s.data.toList = clsB s := tokB_name (.inr ⟨rfl, rfl, rfl⟩) _
end Tr
end Go.Proofs.YtdckddkalgnlpaaGreatDoor
namespace Go.Proofs.YtdckddkalgnlpaaGreatDoor
open Go.RowKit
theorem tokB_of {k : Nat} {l : List UInt8} {t : Lex.Tok} {ts : List Lex.Tok} (h : Lex.scan l = .toks (t :: ts)) : Tr.tokB k l = (t.kind == k && decide (t.text = l)) := by unfold Tr.tokB; rw [h]
theorem text_beq (l : List UInt8) (s : ByteArray) : ((⟨l.toArray⟩ : ByteArray).toList == s.toList) = decide (l = s.data.toList) := by
 rw [bytes_beq, Bool.eq_iff_iff, decide_eq_true_eq, decide_eq_true_eq]
 constructor
 ·intro h; rw [← h]
 ·intro h
  cases s with
  | mk d => simp only at h; rw [h]
theorem text_beq2 (l : List UInt8) (s : ByteArray) : (l == s.toList) = decide (l = s.data.toList) := by
 have h := text_beq l s
 have e : (⟨l.toArray⟩ : ByteArray).toList = l := by simp
 rw [e] at h
 exact h
set_option maxHeartbeats 400000 in
theorem scan_long (s : ByteArray) (w : World) (hs : s.size ≤ 9223372036854775807) (hl : 16384 < s.size) :
 Calls Tryz.prog 16 #[.string s] w fun e w' => e = .returned (.tuple #[.slice none 0 0, .int .i64 0, .int .i64 8]) ∧ w = w' := by
 go_enter Tryz.func16, Tryz.ntmps16
 go_wp2
 go_ret3
 exact ⟨rfl, rfl⟩
theorem scan_all (s : ByteArray) (w : World) (hE : LexEnv w) (hs : s.size ≤ maxLen) : Calls Tryz.prog 16 #[.string s] w (ScanPost s w) := by
 by_cases h : s.size ≤ 16384
 ·exact scan_any_short s w hE h
 ·refine (scan_long s w hs (by omega)).mono ?_
  rintro e w' ⟨rfl, rfl⟩
  refine .inl ⟨0, 8, ?_, rfl, Below.refl _ _⟩
  unfold Lex.scan
  rw [if_pos (by rw [data_len]; omega)]
theorem scanF_bad_pos (n : Nat) : ∀ (f : Nat) (l : List UInt8) (a er : Nat), l.length ≤ f → Lex.scanF n f l = .bad a er → 0 < er
 | f, [], a, er, _, h => by rw [Lex.scanF_nil] at h; cases h
 | 0, _ :: _, _, _, hf, _ => by simp at hf
 | f + 1, c :: r, a, er, hf, h => by
   cases hn : Lex.next (c :: r) with
   | bad e =>
     rw [Lex.scanF_bad hn] at h
     cases h
     exact Lex.next_bad hn
   | tok k t v =>
     rw [Lex.scanF, hn] at h
     simp only [] at h
     have h3 := (Lex.next_text hn).2.1
     have hle := Lex.skip_le false ((c :: r).drop t.length)
     rw [List.length_drop] at hle
     have hlen : (Lex.skip false ((c :: r).drop t.length)).length ≤ f := by
      simp only [List.length_cons] at hle hf
      omega
     cases hr : Lex.scanF n f (Lex.skip false ((c :: r).drop t.length)) with
     | bad a2 e2 =>
       rw [hr] at h
       cases h
       exact scanF_bad_pos n f _ _ _ hlen hr
     | toks l' => rw [hr] at h; cases h
theorem scan_bad_pos {l : List UInt8} {a er : Nat} (h : Lex.scan l = .bad a er) : 0 < er := by
 unfold Lex.scan at h
 split at h
 ·cases h; omega
 ·exact scanF_bad_pos _ _ _ _ _ (Lex.skip_le false l) h
set_option maxRecDepth 100000 in
set_option maxHeartbeats 2000000 in
theorem isToken_any (s : ByteArray) (k : Nat) (w : World) (hE : LexEnv w) (hs : s.size ≤ maxLen) :
 Calls Tryz.prog 92 #[.string s, .int .i64 k] w fun e w' => e = .returned (.bool (Tr.tokB k s.data.toList)) ∧ Below w.heap.size w w' := by
 have HS := Lib.hid (scan_all s w hE hs)
 cases hsc : Lex.scan s.data.toList with
 | bad a er =>
   have her : Hid (Tr.tokB k s.data.toList = false) := by show _ = _; unfold Tr.tokB; rw [hsc]
   have he : 0 < er := scan_bad_pos hsc
   have he2 : ((er : Int) == 0) = false := beq_eq_false_iff_ne.2 (by omega)
   have HSC := Lib.hid hsc
   clear hsc hE
   go_enter Tryz.func92, Tryz.ntmps92
   go_wp2_with fail
   refine HS.out.mono ?_
   rintro e w2 hp
   obtain ⟨rfl, hb⟩ := post_bad hp HSC.out
   clear hp
   go_wp2_with fail
   go_ret
   exact ⟨by rw [her.out]; rfl, hb⟩
 | toks ts =>
   obtain ⟨t, r, rfl⟩ : ∃ t r, ts = t :: r := by
    have := scan_ne hsc
    cases ts with
    | nil => exact absurd rfl this
    | cons t r => exact ⟨t, r, rfl⟩
   have htk := Lib.hid (tokB_of (k := k) hsc)
   have HSC := Lib.hid hsc
   have hlen : 1 ≤ (t :: r).length := by simp
   obtain ⟨n, hn⟩ : ∃ n, (t :: r).length = n := ⟨_, rfl⟩
   rw [hn] at hlen
   have hl2 := scan_len hsc
   rw [hn] at hl2
   have HN := Lib.hid hn
   obtain ⟨kd, tx, vl, ps⟩ := t
   clear hsc hE hn
   by_cases hkk : kd = k
   ·have hb1 : ((kd : Int) == (k : Int)) = true := beq_iff_eq.2 (by omega)
    have hf : Hid (Tr.tokB k s.data.toList = decide (tx = s.data.toList)) := by rw [htk.out]; show ((kd == k) && _) = _; rw [hkk, beq_self_eq_true, Bool.true_and]
    clear hkk
    go_enter Tryz.func92, Tryz.ntmps92
    go_wp2_with fail
    refine HS.out.mono ?_
    rintro e w2 hp
    obtain ⟨g, cap, rfl, hta, h1, h2, hb⟩ := post_toks hp HSC.out
    rw [HN.out]
    obtain ⟨c0, c1, _, _⟩ := hta 0 _ rfl
    clear hp hta
    go_wp2_with fail
    go_ret
    exact ⟨by rw [hf.out]; exact ret_bool (text_beq2 tx s), hb⟩
   ·have hb1 : ((kd : Int) == (k : Int)) = false := beq_eq_false_iff_ne.2 (by omega)
    have hf : Hid (Tr.tokB k s.data.toList = false) := by rw [htk.out]; show ((kd == k) && _) = _; rw [beq_eq_false_iff_ne.2 hkk, Bool.false_and]
    clear hkk
    go_enter Tryz.func92, Tryz.ntmps92
    go_wp2_with fail
    refine HS.out.mono ?_
    rintro e w2 hp
    obtain ⟨g, cap, rfl, hta, h1, h2, hb⟩ := post_toks hp HSC.out
    rw [HN.out]
    obtain ⟨c0, c1, _, _⟩ := hta 0 _ rfl
    clear hp hta
    go_wp2_with fail
    go_ret
    exact ⟨by rw [hf.out]; rfl, hb⟩
set_option maxHeartbeats 400000 in
theorem isVariable_any (s : ByteArray) (w : World) (hE : LexEnv w) (hs : s.size ≤ maxLen) :
 Calls Tryz.prog 46 #[.string s] w fun e w' => e = .returned (.bool (Tr.varB s)) ∧ Below w.heap.size w w' := by
 have h := isToken_any s 2 w hE hs
 rw [Tr.tokB_var] at h
 have H := Lib.hid h
 clear h hE
 go_enter Tryz.func46, Tryz.ntmps46
 go_wp2_with fail
 refine H.out.mono ?_
 rintro e w' ⟨rfl, hb⟩
 go_wp2_with fail
 go_ret
 exact ⟨rfl, hb⟩
set_option maxHeartbeats 400000 in
theorem isClass_any (s : ByteArray) (w : World) (hE : LexEnv w) (hs : s.size ≤ maxLen) :
 Calls Tryz.prog 47 #[.string s] w fun e w' => e = .returned (.bool (Tr.clsB s)) ∧ Below w.heap.size w w' := by
 have h := isToken_any s 3 w hE hs
 rw [Tr.tokB_cls] at h
 have H := Lib.hid h
 clear h hE
 go_enter Tryz.func47, Tryz.ntmps47
 go_wp2_with fail
 refine H.out.mono ?_
 rintro e w' ⟨rfl, hb⟩
 go_wp2_with fail
 go_ret
 exact ⟨rfl, hb⟩
def IdxPost (b : Bool) (W : World) (e : Ending) (w' : World) : Prop := ∃ i : Int, e = .returned (.int .i64 i) ∧ decide (0 ≤ i) = b ∧ Below W.heap.size W w'
theorem SlStr.len {w : World} {v : Value} {l : List ByteArray} (h : SlStr w v l) : l.length ≤ maxLen := by
 obtain ⟨p, c, e, h1, _⟩ := h; exact h1
def methV (m : Tr.M) (x y : Value) : Value := .agg #[.string m.name, x, y]
def classV (c : Tr.C) (x y : Value) : Value := .agg #[.string c.name, .bool c.actor, x, y]
end Go.Proofs.YtdckddkalgnlpaaGreatDoor
namespace Go.Proofs.YtdckddkalgnlpaaGreatDoor
open Go.RowKit
structure PrEnv (w : World) : Prop where
 ops : ∀ o : Nat, o ≤ 12 → w.cell? ⟨2, o * 2, none⟩ = some (.string ⟨(Sy.sym o).toArray⟩) ∧ w.cell? ⟨2, o * 2 + 1, none⟩ = some (.int .i64 (Sy.opLevel o : Nat))
 tab : Lib.TabIs Tryz.prog w "internal/strconv.uint64pow10" .u64 Lib.pow10Tab
theorem PrEnv.lt {w : World} (h : PrEnv w) : 2 < w.heap.size := cell_lt' (h.ops 0 (by omega)).1
structure PrIn (w0 : World) (B b : Nat) (l : List UInt8) (deep : Int) (w : World) : Prop where
 st : PrSt B b l deep w
 base : Below w0.heap.size w0 w
 le : w0.heap.size ≤ B
 leB : B ≤ w.heap.size
def PrPost (B b : Nat) (l t : List UInt8) (deep : Int) (w : World) (e : Ending) (w' : World) : Prop :=
 e = .returned (.tuple #[]) ∧ PrSt B b (l ++ t) deep w' ∧ Pk B b w w'
section
variable {w0 : World} {B b : Nat} {l : List UInt8} {deep : Int} {w w' : World}
theorem PrIn.next (h : PrIn w0 B b l deep w) {l' : List UInt8} (hs : PrSt B b l' deep w') (hk : Pk B b w w') : PrIn w0 B b l' deep w' :=
 ⟨hs, h.base.trans (hk.below.mono h.le), h.le, Nat.le_trans h.leB hk.below.size⟩
theorem PrIn.box (h : PrIn w0 B b l deep w) (o : Obj) : PrIn w0 B b l deep (w.alloc o) := h.next (h.st.next (below_box w o)) ((Pk.refl B b w).alloc h.leB o)
theorem PrIn.drew (h : PrIn w0 B b l deep w) : PrIn w0 B b l deep w.drew := h.next (h.st.next (Below.refl _ w).drew) (Pk.refl B b w).drew
theorem PrIn.lt (h : PrIn w0 B b l deep w) : b < w.heap.size := h.st.lt
theorem PrIn.ne (h : PrIn w0 B b l deep w) : w.heap.size ≠ b := by have := h.lt; omega
theorem PrIn.pk (h : PrIn w0 B b l deep w) (o : Obj) : Pk B b w (w.alloc o) := (Pk.refl B b w).alloc h.leB o
theorem PrPost.of (h : Pk B b w w') {l1 l2 t : List UInt8} {e : Ending} {W : World} (hp : PrPost B b l1 l2 deep w' e W) (ht : l1 ++ l2 = l ++ t) : PrPost B b l t deep w e W :=
 ⟨hp.1, ht ▸ hp.2.1, h.trans hp.2.2⟩
end
def flatB (ts : List ByteArray) : List UInt8 := (ts.map (·.data.toList)).flatten
theorem flatB_app (a b : List ByteArray) : flatB (a ++ b) = flatB a ++ flatB b := by unfold flatB; rw [List.map_append, List.flatten_append]
theorem flatB_take {ts : List ByteArray} {j : Nat} {s : ByteArray} (h : ts[j]? = some s) : flatB (ts.take (j + 1)) = flatB (ts.take j) ++ s.data.toList := by
 rw [List.take_add_one, h, flatB_app]; simp [flatB]
theorem flatB_le (ts : List ByteArray) (j : Nat) : (flatB (ts.take j)).length ≤ (flatB ts).length := by
 have h : flatB ts = flatB (ts.take j) ++ flatB (ts.drop j) := by rw [← flatB_app, List.take_append_drop]
 rw [h, List.length_append]; omega
set_option maxRecDepth 100000 in
set_option maxHeartbeats 2000000 in
theorem write_any {w0 : World} {B b : Nat} {l : List UInt8} {deep : Int} {w : World} (hI : PrIn w0 B b l deep w) (ts : List ByteArray) (q n : Nat) (hq : w.heap[q]? = some (.cells (ts.map Value.string).toArray 9 (0, 0))) (hqb : q ≠ b) (hn : ts.length = n)
 (hlen : l.length + (flatB ts).length ≤ 140737488355328) (hn2 : n ≤ 1000000) :
 Calls Tryz.prog 90 #[.pointer (some ⟨b, 0, none⟩), .slice (some ⟨q, 0, none⟩) n n] w (PrPost B b l (flatB ts) deep w) := by
 have HI := Lib.hid hI
 have HQ := Lib.hid hq
 have HN := Lib.hid hn
 have HL := Lib.hid hlen
 have HB := Lib.hid hqb
 clear hI hq hn hlen hqb
 go_enter Tryz.func90, Tryz.ntmps90
 go_wp2_with fail
 go_loopg [5, 8] n (fun g s5 s8 wr => ∃ j : Nat, s8 = .int .i64 j ∧ j ≤ n ∧ g = n - j ∧ Hid (PrIn w0 B b (l ++ flatB (ts.take j)) deep wr) ∧ Hid (Pk B b w wr))
 case atStart => exact ⟨0, rfl, Nat.zero_le _, rfl, by show PrIn _ _ _ _ _ _; rw [List.take_zero]; simpa [flatB] using HI.out, Pk.refl _ _ _⟩
 case round =>
  obtain ⟨j, rfl, hj, rfl, HST, HK⟩ := hrel
  by_cases hlt : j < n
  ·obtain ⟨s, hs⟩ : ∃ s, ts[j]? = some s := ⟨_, List.getElem?_eq_getElem (by rw [HN.out]; exact hlt)⟩
   have hcell := cell_of_blkP (HK.out.box HQ.out HB.out (by decide)) (j := j) (u := .string s) (by rw [List.getElem?_toArray, List.getElem?_map, hs]; rfl)
   have hf := flatB_take hs
   have hle := flatB_le ts (j + 1)
   have hcall := writeStr_any s wr HST.out.st (by have := HL.out; rw [hf, List.length_append] at hle; rw [List.length_append]; have e : s.data.toList.length = s.size := rfl; omega) HST.out.leB
   have HC := Lib.hid hcall
   have HF := Lib.hid hf
   have b3 : (j : Int) < (n : Int) := by omega
   clear hs hcall hf hle
   go_wp2_with fail
   refine HC.out.mono ?_
   rintro e w2 ⟨rfl, hs2, hk2⟩
   have HS2 := Lib.hid hs2
   have HK2 := Lib.hid hk2
   clear hs2 hk2 hcell
   go_wp2_with fail
   go_roundg (n - (j + 1))
   case measure => omega
   case rel =>
    refine ⟨j + 1, by go_num, by omega, rfl, ?_, HK.out.trans HK2.out⟩
    have h1 := HST.out.next HS2.out HK2.out
    rw [List.append_assoc, ← HF.out] at h1
    exact h1
  ·obtain rfl : j = n := by omega
   have hfull : ts.take j = ts := List.take_of_length_le (by rw [HN.out]; exact Nat.le_refl _)
   rw [hfull] at HST
   clear hfull
   go_wp2_with fail
   go_end0
   exact ⟨rfl, HST.out.st, HK.out⟩
theorem wr_any {w0 : World} {B b : Nat} {l : List UInt8} {deep : Int} {W : World} (hI : PrIn w0 B b l deep W) (ts : List ByteArray) (n : Nat) (cs : Array Value) (t : List UInt8) (hcs : cs = (ts.map Value.string).toArray) (hn : ts.length = n) (ht : flatB ts = t)
 (hlen : l.length + t.length ≤ 140737488355328) (hn2 : n ≤ 1000000) :
 Calls Tryz.prog 90 #[.pointer (some ⟨b, 0, none⟩), .slice (some ⟨W.heap.size, 0, none⟩) n n] (W.alloc (.cells cs 9)) (PrPost B b l t deep W) := by
 subst hcs ht
 refine (write_any (hI.box _) ts W.heap.size n (MapKept.heap_alloc W _).1 hI.ne hn hlen hn2).mono fun e w' h => ?_
 exact PrPost.of (hI.pk _) h rfl
set_option maxRecDepth 100000 in
set_option maxHeartbeats 2000000 in
theorem level_any (e : Tr.E) (p : Option Addr) (N c : Nat) (w0 w : World) (hE : PrEnv w0) (hb : Below w0.heap.size w0 w) (ho : e.kind = 10 → 0 ≤ e.op ∧ e.op ≤ 12) :
 Calls Tryz.prog 89 #[exprV e (.slice p N c)] w fun r w' => r = .returned (.int .i64 (Sy.level e : Nat)) ∧ w' = w.alloc (.cells #[.int .i64 e.kind, .int .i64 e.op, .int .i64 e.int, .string e.name, .bool e.at_, .slice p N c] 33) := by
 obtain ⟨k, o, i, nm, a1, l⟩ := e
 unfold exprV
 simp only [Tr.E.kind, Tr.E.op, Tr.E.int, Tr.E.name, Tr.E.at_] at ho ⊢
 by_cases h10 : k = 10
 ·subst h10
  obtain ⟨o0, o1⟩ := ho rfl
  obtain ⟨O, rfl⟩ : ∃ q : Nat, o = q := ⟨o.toNat, by omega⟩
  have c1 := cell_keep' hb (hE.ops O (by omega)).2
  have hlt := Nat.lt_of_lt_of_le hE.lt hb.size
  have b3 : (O : Int) < 13 := by omega
  clear hE hb ho
  go_enter Tryz.func89, Tryz.ntmps89
  go_wp2_with fail
  go_ret
  exact ⟨rfl, rfl⟩
 ·clear ho
  by_cases h9 : k = 9
  ·subst h9
   go_enter Tryz.func89, Tryz.ntmps89
   go_wp2_with fail
   go_ret
   exact ⟨rfl, rfl⟩
  ·have n9 : (k == 9) = false := beq_eq_false_iff_ne.2 h9
   by_cases h8 : k = 8
   ·subst h8
    go_enter Tryz.func89, Tryz.ntmps89
    go_wp2_with fail
    go_ret
    exact ⟨rfl, rfl⟩
   ·have n8 : (k == 8) = false := beq_eq_false_iff_ne.2 h8
    by_cases h6 : k = 6
    ·subst h6
     go_enter Tryz.func89, Tryz.ntmps89
     go_wp2_with fail
     go_ret
     exact ⟨rfl, rfl⟩
    ·have n6 : (k == 6) = false := beq_eq_false_iff_ne.2 h6
     by_cases h7 : k = 7
     ·subst h7
      go_enter Tryz.func89, Tryz.ntmps89
      go_wp2_with fail
      go_ret
      exact ⟨rfl, rfl⟩
     ·have n7 : (k == 7) = false := beq_eq_false_iff_ne.2 h7
      by_cases h5 : k = 5
      ·subst h5
       cases a1
       ·go_enter Tryz.func89, Tryz.ntmps89
        go_wp2_with fail
        go_ret
        exact ⟨rfl, rfl⟩
       ·go_enter Tryz.func89, Tryz.ntmps89
        go_wp2_with fail
        go_ret
        exact ⟨rfl, rfl⟩
      ·have n5 : (k == 5) = false := beq_eq_false_iff_ne.2 h5
       by_cases h4 : k = 4
       ·subst h4
        go_enter Tryz.func89, Tryz.ntmps89
        go_wp2_with fail
        go_ret
        exact ⟨rfl, rfl⟩
       ·have n4 : (k == 4) = false := beq_eq_false_iff_ne.2 h4
        have n10 : (k == 10) = false := beq_eq_false_iff_ne.2 h10
        have HV : Hid (Sy.levelK k o a1 = 9) := by show _ = _; unfold Sy.levelK; rw [if_neg h10, if_neg h9, if_neg (by omega), if_neg h5, if_neg h4]
        clear h10 h9 h8 h6 h7 h5 h4
        go_enter Tryz.func89, Tryz.ntmps89
        go_wp2_with fail
        go_ret
        exact ⟨by have h9 : Sy.level (.mk k o i nm a1 l) = 9 := HV.out; rw [h9]; rfl, rfl⟩
end Go.Proofs.YtdckddkalgnlpaaGreatDoor
namespace Go.Proofs
open Go.Shelf
def Tryz.laysM173_ren : Go.Shelf.Ren := ⟨fun | 173 => 142 | 246 => 170 | 283 => 189 | 284 => 190 | 285 => 191 | 286 => 192 | 129 => 211 | 317 => 210 | 318 => 212 | 319 => 213 | 320 => 214 | 337 => 221 | 338 => 222 | n => n, fun | 2 => 2 | 3 => 3 | 9 => 9 | 4 => 4 | 171 => 194 | 0 => 0 | 53 => 186 | 37 => 83 | 5 => 5 | 173 => 197 | 212 => 215 | 51 => 216 | 20 => 20 | 213 => 217 | 46 => 189 | 232 => 230 | 233 => 231 | n => n, fun | 17 => 9 | 18 => 10 | 19 => 11 | n => n⟩
theorem Tryz.laysM173 : Go.Proofs.LaysM.n173 Tryz.prog Tryz.laysM173_ren := {
 mixed := by kernel_rfl
 f129 := Tryz.func211.trans (congrArg some (by kernel_rfl))
 f173 := Tryz.func142.trans (congrArg some (by kernel_rfl))
 f246 := Tryz.func170.trans (congrArg some (by kernel_rfl))
 f283 := Tryz.func189.trans (congrArg some (by kernel_rfl))
 f284 := Tryz.func190.trans (congrArg some (by kernel_rfl))
 f285 := Tryz.func191.trans (congrArg some (by kernel_rfl))
 f286 := Tryz.func192.trans (congrArg some (by kernel_rfl))
 f317 := Tryz.func210.trans (congrArg some (by kernel_rfl))
 f318 := Tryz.func212.trans (congrArg some (by kernel_rfl))
 f319 := Tryz.func213.trans (congrArg some (by kernel_rfl))
 f320 := Tryz.func214.trans (congrArg some (by kernel_rfl))
 f337 := Tryz.func221.trans (congrArg some (by kernel_rfl))
 f338 := Tryz.func222.trans (congrArg some (by kernel_rfl))
 t0 := Tryz.underlying0
 a0 := Tryz.isAgg0
 z0 := Tryz.sizeOf0
 v0 := Tryz.zeroValue0
 t2 := Tryz.underlying2
 a2 := Tryz.isAgg2
 z2 := Tryz.sizeOf2
 v2 := Tryz.zeroValue2
 t3 := Tryz.underlying3
 a3 := Tryz.isAgg3
 z3 := Tryz.sizeOf3
 v3 := Tryz.zeroValue3
 t4 := Tryz.underlying4
 a4 := Tryz.isAgg4
 z4 := Tryz.sizeOf4
 v4 := Tryz.zeroValue4
 t5 := Tryz.underlying5
 a5 := Tryz.isAgg5
 z5 := Tryz.sizeOf5
 v5 := Tryz.zeroValue5
 t9 := Tryz.underlying9
 a9 := Tryz.isAgg9
 z9 := Tryz.sizeOf9
 v9 := Tryz.zeroValue9
 t20 := Tryz.underlying20
 a20 := Tryz.isAgg20
 z20 := Tryz.sizeOf20
 v20 := Tryz.zeroValue20
 t37 := Tryz.underlying83
 a37 := Tryz.isAgg83
 z37 := Tryz.sizeOf83
 v37 := Tryz.zeroValue83
 t46 := Tryz.underlying189
 a46 := Tryz.isAgg189
 z46 := Tryz.sizeOf189
 v46 := Tryz.zeroValue189
 t51 := Tryz.underlying216
 a51 := Tryz.isAgg216
 z51 := Tryz.sizeOf216
 v51 := Tryz.zeroValue216
 t53 := Tryz.underlying186
 a53 := Tryz.isAgg186
 z53 := Tryz.sizeOf186
 v53 := Tryz.zeroValue186
 t171 := Tryz.underlying194
 a171 := Tryz.isAgg194
 z171 := Tryz.sizeOf194
 v171 := Tryz.zeroValue194
 t173 := Tryz.underlying197
 a173 := Tryz.isAgg197
 z173 := Tryz.sizeOf197
 v173 := Tryz.zeroValue197
 t212 := Tryz.underlying215
 a212 := Tryz.isAgg215
 z212 := Tryz.sizeOf215
 v212 := Tryz.zeroValue215
 t213 := Tryz.underlying217
 a213 := Tryz.isAgg217
 z213 := Tryz.sizeOf217
 t232 := Tryz.underlying230
 a232 := Tryz.isAgg230
 z232 := Tryz.sizeOf230
 v232 := Tryz.zeroValue230
 t233 := Tryz.underlying231
 a233 := Tryz.isAgg231
 z233 := Tryz.sizeOf231
 v233 := Tryz.zeroValue231
 g17 := by kernel_rfl
 g18 := by kernel_rfl
 g19 := by kernel_rfl
 i0 := by kernel_rfl
 i2 := by kernel_rfl
 i3 := by kernel_rfl
 i4 := by kernel_rfl
 i5 := by kernel_rfl
 i9 := by kernel_rfl
 i20 := by kernel_rfl
 i37 := by kernel_rfl
 i46 := by kernel_rfl
 i51 := by kernel_rfl
 i53 := by kernel_rfl
 i171 := by kernel_rfl
 i173 := by kernel_rfl
 i212 := by kernel_rfl
 i232 := by kernel_rfl
 i233 := by kernel_rfl
 m17 := by kernel_rfl
 m18 := by kernel_rfl
 m19 := by kernel_rfl }
open Go.RowKit Go.Sort Go.Lib in
theorem Tryz.strconv_FormatInt_10 (n : Int) (h0 : -9223372036854775808 ≤ n) (h1 : n ≤ 9223372036854775807) (w : World) (htab : Lib.TabIs Tryz.prog w "internal/strconv.uint64pow10" .u64 Lib.pow10Tab) :
 Calls Tryz.prog 142 #[.int .i64 n, .int .i64 10] w fun e w' => e = .returned (.string ⟨(Lib.itoa n).toArray⟩) ∧ ∃ k os, w' = grow (w.drewN k) os := Any.strconv_FormatInt_10 Tryz.laysM173 n h0 h1 w htab
def Tryz.lays105_ren : Go.Shelf.Ren := ⟨fun | 105 => 171 | 212 => 193 | 99 => 82 | 165 => 87 | 166 => 88 | 170 => 194 | 169 => 45 | 263 => 215 | 264 => 216 | 206 => 135 | 240 => 139 | 241 => 140 | 276 => 168 | 277 => 169 | n => n, fun | 9 => 9 | 3 => 3 | 4 => 4 | 20 => 20 | 0 => 0 | 46 => 189 | 109 => 199 | 5 => 5 | 72 => 85 | 76 => 124 | 51 => 216 | 146 => 220 | 53 => 186 | 148 => 222 | 70 => 82 | 37 => 83 | 75 => 123 | 127 => 128 | 164 => 179 | 80 => 89 | n => n, fun | n => n⟩
theorem Tryz.lays105 : Go.Proofs.Lays.n105 Tryz.prog Tryz.lays105_ren := {
 mixed := by kernel_rfl
 f99 := Tryz.func82.trans (congrArg some (by kernel_rfl))
 f105 := Tryz.func171.trans (congrArg some (by kernel_rfl))
 f165 := Tryz.func87.trans (congrArg some (by kernel_rfl))
 f166 := Tryz.func88.trans (congrArg some (by kernel_rfl))
 f169 := Tryz.func45.trans (congrArg some (by kernel_rfl))
 f170 := Tryz.func194.trans (congrArg some (by kernel_rfl))
 f206 := Tryz.func135.trans (congrArg some (by kernel_rfl))
 f212 := Tryz.func193.trans (congrArg some (by kernel_rfl))
 f240 := Tryz.func139.trans (congrArg some (by kernel_rfl))
 f241 := Tryz.func140.trans (congrArg some (by kernel_rfl))
 f263 := Tryz.func215.trans (congrArg some (by kernel_rfl))
 f264 := Tryz.func216.trans (congrArg some (by kernel_rfl))
 f276 := Tryz.func168.trans (congrArg some (by kernel_rfl))
 f277 := Tryz.func169.trans (congrArg some (by kernel_rfl))
 t0 := Tryz.underlying0
 a0 := Tryz.isAgg0
 z0 := Tryz.sizeOf0
 v0 := Tryz.zeroValue0
 t3 := Tryz.underlying3
 a3 := Tryz.isAgg3
 z3 := Tryz.sizeOf3
 v3 := Tryz.zeroValue3
 t4 := Tryz.underlying4
 a4 := Tryz.isAgg4
 z4 := Tryz.sizeOf4
 v4 := Tryz.zeroValue4
 t5 := Tryz.underlying5
 a5 := Tryz.isAgg5
 z5 := Tryz.sizeOf5
 v5 := Tryz.zeroValue5
 t9 := Tryz.underlying9
 a9 := Tryz.isAgg9
 z9 := Tryz.sizeOf9
 v9 := Tryz.zeroValue9
 t20 := Tryz.underlying20
 a20 := Tryz.isAgg20
 z20 := Tryz.sizeOf20
 v20 := Tryz.zeroValue20
 t37 := Tryz.underlying83
 a37 := Tryz.isAgg83
 z37 := Tryz.sizeOf83
 v37 := Tryz.zeroValue83
 t46 := Tryz.underlying189
 a46 := Tryz.isAgg189
 z46 := Tryz.sizeOf189
 v46 := Tryz.zeroValue189
 t51 := Tryz.underlying216
 a51 := Tryz.isAgg216
 z51 := Tryz.sizeOf216
 v51 := Tryz.zeroValue216
 t53 := Tryz.underlying186
 a53 := Tryz.isAgg186
 z53 := Tryz.sizeOf186
 v53 := Tryz.zeroValue186
 t70 := Tryz.underlying82
 a70 := Tryz.isAgg82
 z70 := Tryz.sizeOf82
 v70 := Tryz.zeroValue82
 t72 := Tryz.underlying85
 a72 := Tryz.isAgg85
 z72 := Tryz.sizeOf85
 v72 := Tryz.zeroValue85
 t75 := Tryz.underlying123
 a75 := Tryz.isAgg123
 z75 := Tryz.sizeOf123
 v75 := Tryz.zeroValue123
 t76 := Tryz.underlying124
 a76 := Tryz.isAgg124
 z76 := Tryz.sizeOf124
 v76 := Tryz.zeroValue124
 t109 := Tryz.underlying199
 a109 := Tryz.isAgg199
 z109 := Tryz.sizeOf199
 v109 := Tryz.zeroValue199
 t127 := Tryz.underlying128
 a127 := Tryz.isAgg128
 z127 := Tryz.sizeOf128
 v127 := Tryz.zeroValue128
 t146 := Tryz.underlying220
 a146 := Tryz.isAgg220
 z146 := Tryz.sizeOf220
 v146 := Tryz.zeroValue220
 t148 := Tryz.underlying222
 a148 := Tryz.isAgg222
 z148 := Tryz.sizeOf222
 v148 := Tryz.zeroValue222
 t164 := Tryz.underlying179
 a164 := Tryz.isAgg179
 z164 := Tryz.sizeOf179
 v164 := Tryz.zeroValue179 }
theorem Tryz.Builder_Extra_105 : Builder.Extra Tryz.prog Tryz.lays105_ren := {
 sizeBuilder := by kernel_rfl
 liesBuilder := by kernel_rfl
 t5 := Tryz.underlying5
 a5 := Tryz.isAgg5
 z5 := Tryz.sizeOf5
 v5 := Tryz.zeroValue5
 infoByte := by kernel_rfl
 cellsByte := by kernel_rfl
 sizeByte := by kernel_rfl
 neB5 := by decide }
open Go.RowKit Go.Lib in
theorem Tryz.strings_Repeat (s : ByteArray) (c : Nat) (w : World) (hc : c ≤ 9223372036854775807) (hlen : s.size * c ≤ 140737488355328) :
 Calls Tryz.prog 171 #[.string s, .int .i64 c] w fun e w' => e = .returned (.string ⟨(Lib.repeatL s.data.toList c).toArray⟩) ∧ Below w.heap.size w w' := Any.strings_Repeat Tryz.lays105 Tryz.Builder_Extra_105 s c w hc hlen
def Tryz.lays193_ren : Go.Shelf.Ren := ⟨fun | 193 => 84 | n => n, fun | 31 => 46 | 9 => 9 | 4 => 4 | 3 => 3 | 0 => 0 | n => n, fun | n => n⟩
theorem Tryz.lays193 : Go.Proofs.Lays.n193 Tryz.prog Tryz.lays193_ren := {
 mixed := by kernel_rfl
 f193 := Tryz.func84.trans (congrArg some (by kernel_rfl))
 t0 := Tryz.underlying0
 a0 := Tryz.isAgg0
 z0 := Tryz.sizeOf0
 v0 := Tryz.zeroValue0
 t3 := Tryz.underlying3
 a3 := Tryz.isAgg3
 z3 := Tryz.sizeOf3
 v3 := Tryz.zeroValue3
 t4 := Tryz.underlying4
 a4 := Tryz.isAgg4
 z4 := Tryz.sizeOf4
 v4 := Tryz.zeroValue4
 t9 := Tryz.underlying9
 a9 := Tryz.isAgg9
 z9 := Tryz.sizeOf9
 v9 := Tryz.zeroValue9
 t31 := Tryz.underlying46
 a31 := Tryz.isAgg46
 z31 := Tryz.sizeOf46
 v31 := Tryz.zeroValue46 }
open Go.RowKit Go.Lib in
theorem Tryz.slices_Equal_string (b1 o1 n c b2 o2 m d : Nat) (xs ys : List ByteArray) (w : World) (hx : n ≤ xs.length) (hy : m ≤ ys.length) (hbig : n ≤ 9223372036854775807) (hbig2 : m ≤ 9223372036854775807) (hc1 : ∀ j, j < xs.length → w.cell? ⟨b1, o1 + j, none⟩ = some (.string (xs.getD j ByteArray.empty))) (hc2 : ∀ j, j < ys.length → w.cell? ⟨b2, o2 + j, none⟩ = some (.string (ys.getD j ByteArray.empty))) :
 Calls Tryz.prog 84 #[.slice (some ⟨b1, o1, none⟩) n c, .slice (some ⟨b2, o2, none⟩) m d] w fun e w' => e = .returned (.bool (decide (xs.take n = ys.take m))) ∧ ∃ q, w' = w.drewN q := Any.slices_Equal_string Tryz.lays193 b1 o1 n c b2 o2 m d xs ys w hx hy hbig hbig2 hc1 hc2
open Go.RowKit Go.Lib in
theorem Tryz.slices_Equal_string_empty (a1 a2 : Option Addr) (c m d : Nat) (w : World) (hbig2 : m ≤ 9223372036854775807) :
 Calls Tryz.prog 84 #[.slice a1 0 c, .slice a2 m d] w fun e w' => e = .returned (.bool (decide (m = 0))) ∧ w' = w := Any.slices_Equal_string_empty Tryz.lays193 a1 a2 c m d w hbig2
end Go.Proofs
