/-
  Several texts in one: TrFew, TrForm, SyPr, TrProgA, SyWrite, ShelfY, SyExprA, SyList, SyPlain, PaRt, PaRtB, PaRtS, TrHide, TrOwn.
-/
import Derived.Test.YtdckddkalgnlpaaGreatDoorS1
import Derived.Test.YtdckddkalgnlpaaGreatDoorRows
import Derived.WalkKit
import Derived.WalkLawsBesides
import Derived.WalkSpells
import Derived.LoopTactic
import Derived.Lib.Hide
import Derived.Lib.Strings
import Derived.Lib.Builder
import Derived.Lib.AppendStr
import Derived.Lib.UnsafeStr
import Derived.Lib.OthersKept
import Derived.Laws.Externs
import Derived.Test.YtdckddkalgnlpaaGreatDoorS3
import Derived.Deep.LoopGhost
import Derived.Lib.LaidTab
import Derived.Shelf.Strconv.Itoa3
import Derived.Shelf.Strings.Builder1
import Derived.Shelf.Strings.Builder2
import Derived.Shelf.Strings.OnBuilder
import Derived.Shelf.Strings.Trim
import Derived.Shelf.Small.Utf8
import Derived.Shelf.Small.Strs
import Derived.Shelf.Strings.BuilderF
import Derived.Shelf.Strconv.Itoa0
import Derived.Shelf.Strconv.Itoa1
import Derived.Shelf.LaysM
import Derived.Shelf.Strconv.Itoa2
import Derived.Shelf.Strconv.Itoa4
import Derived.Shelf.Strconv.ParseIntEmpty
import Derived.Shelf.Strconv.Clone
import Derived.Shelf.Strconv.SyntaxError
import Derived.Shelf.LaysC
import Derived.Shelf.Strconv.ToError
import Derived.Shelf.Strconv.Lower
import Derived.Shelf.Strconv.ParseUint10
import Derived.Shelf.Strconv.ParseUint10Empty
import Derived.Shelf.Strconv.ParseUint10Any
import Derived.Shelf.Strconv.ParseInt10
import Derived.Shelf.Strconv.RangeError
import Derived.Shelf.Strconv.ToErrorRange
import Derived.Shelf.Strconv.ParseUintEmpty
import Derived.Shelf.Strconv.ParseUint10b64
import Derived.Shelf.Strconv.ParseUint10b32
import Derived.Shelf.Strconv.ParseUint10b16
import Derived.Shelf.Strconv.ParseUint10b8
import Derived.Shelf.Strconv.ParseUint10At
import Derived.Shelf.Strconv.ParseInt10At64
import Derived.Shelf.Strconv.ParseInt10At32
import Derived.Shelf.Strconv.ParseInt10At16
import Derived.Shelf.Strconv.ParseInt10At8
import Derived.Shelf.Strconv.ParseInt10All
import Derived.Shelf.Strconv.ParseIntPublic10
import Derived.Shelf.Strconv.ErrVarParseInt
import Derived.Shelf.Strings.Search1
import Derived.Shelf.Strings.Search2
import Derived.Shelf.Strings.Search3
import Derived.Shelf.Strings.Shaped
import Derived.Shelf.Strings.Prefix
import Derived.Shelf.Strings.Runes
import Derived.Shelf.Strings.AsciiSet
import Derived.Shelf.Bits.Mul64
import Derived.Shelf.Strings.Repeat
import Derived.Shelf.Unicode.DecodeSlow
import Derived.Shelf.Slices.Turned
import Derived.Shelf.Slices.Equal
import Derived.Test.YtdckddkalgnlpaaGreatDoorProg
import Derived.Deep.RegionHeld3
import Derived.Deep.DeepCutAuto
import Derived.StillTailTactics
import Derived.Lib.ItoaNum
import Derived.Deep.QuietTactic
import Derived.BigQuiet
import Derived.Test.YtdckddkalgnlpaaGreatDoorS4
import Derived.Laws.AppendOwn
import Derived.Laws.Rows
import Derived.OneCell
namespace Go.Proofs.YtdckddkalgnlpaaGreatDoor
open Go.RowKit
def exprV (e : Tr.E) (a : Value) : Value := .agg #[.int .i64 e.kind, .int .i64 e.op, .int .i64 e.int, .string e.name, .bool e.at_, a]
theorem box_cell (w : World) (cs : Array Value) (t : TypeId) (i : Nat) (u : Value) (h : cs[i]? = some u) : (w.alloc (.cells cs t)).cell? ⟨w.heap.size, i, none⟩ = some u := by
  unfold World.cell? World.alloc
  simp
  simpa using h
theorem below_box (w : World) (o : Obj) : Below w.heap.size w (w.alloc o) := (Below.refl _ _).alloc (Nat.le_refl _) o
theorem below_next {wb w w' : World} (h : Below wb.heap.size wb w) (h2 : Below w.heap.size w w') : Below wb.heap.size wb w' := h.trans (h2.mono h.size)
namespace Tr
theorem E.deep_pos (e : E) : 1 ≤ e.deep := by cases e; unfold E.deep; omega
end Tr
namespace Tr
theorem S.deep_pos (e : S) : 1 ≤ e.deep := by cases e; unfold S.deep; omega
end Tr
end Go.Proofs.YtdckddkalgnlpaaGreatDoor
namespace Go.Proofs.YtdckddkalgnlpaaGreatDoor
open Go.RowKit
theorem okE_0 (i : Int) (nm : ByteArray) (n : Nat) : Tr.okE 0 0 i nm false n = decide (n = 0 ∧ nm.size = 0 ∧ 0 ≤ i ∧ i ≤ 2305843009213693951) := by
  unfold Tr.okE
  rw [if_pos rfl, Bool.and_false, decide_eq_false (fun h => h.1 rfl), decide_eq_false (fun h => h.2 rfl)]
  rfl
theorem okE_10 (o : Int) (nm : ByteArray) (n : Nat) : Tr.okE 10 o 0 nm false n = decide (n = 2 ∧ nm.size = 0 ∧ 0 ≤ o ∧ o ≤ 12) := by
  unfold Tr.okE
  rw [Bool.and_false, decide_eq_false (p := (10 : Int) ≠ 0 ∧ (0 : Int) ≠ 0) (fun h => h.2 rfl), decide_eq_false (p := (10 : Int) ≠ 10 ∧ o ≠ 0) (fun h => h.1 rfl)]
  rfl
def stmtV (s : Tr.S) (x y z : Value) : Value := .agg #[.int .i64 s.kind, .string s.name, x, y, z]
theorem SlStr.form {w : World} {v : Value} {l : List ByteArray} (h : SlStr w v l) : ∃ p c, v = .slice p l.length c := by
  obtain ⟨p, c, e, _⟩ := h; exact ⟨p, c, e⟩
theorem SlM.form {w : World} {v : Value} {l : List Tr.M} (h : SlM w v l) : ∃ p c, v = .slice p l.length c := by
  obtain ⟨p, c, e, _⟩ := h; exact ⟨p, c, e⟩
theorem SlM.len {w : World} {v : Value} {l : List Tr.M} (h : SlM w v l) : l.length ≤ maxLen := by
  obtain ⟨p, c, e, h1, _⟩ := h; exact h1
theorem SlM.get {w : World} {p : Option Addr} {n c : Nat} {l : List Tr.M} (h : SlM w (.slice p n c) l) {j : Nat} {m : Tr.M} (hj : l[j]? = some m) :
    ∃ b o x y, p = some ⟨b, o, none⟩ ∧ b < w.heap.size ∧ CellsM w b (o + j * 3) m x y ∧ m.name.size ≤ maxLen ∧ SlStr w x m.params ∧ SlS w y m.body := by
  obtain ⟨p', c', e, _, _, hx⟩ := h
  cases e
  obtain ⟨h1, b, o, x, y, h2, h3, h4, h5, h6⟩ := hx j m hj
  exact ⟨b, o, x, y, h2, h3, h4, h1, h5, h6⟩
theorem SlC.form {w : World} {v : Value} {l : List Tr.C} (h : SlC w v l) : ∃ p c, v = .slice p l.length c := by
  obtain ⟨p, c, e, _⟩ := h; exact ⟨p, c, e⟩
theorem SlC.len {w : World} {v : Value} {l : List Tr.C} (h : SlC w v l) : l.length ≤ maxLen := by
  obtain ⟨p, c, e, h1, _⟩ := h; exact h1
theorem SlC.get {w : World} {p : Option Addr} {n c : Nat} {l : List Tr.C} (h : SlC w (.slice p n c) l) {j : Nat} {m : Tr.C} (hj : l[j]? = some m) :
    ∃ b o x y, p = some ⟨b, o, none⟩ ∧ b < w.heap.size ∧ CellsC w b (o + j * 4) m x y ∧ m.name.size ≤ maxLen ∧ SlStr w x m.fields ∧ SlM w y m.methods := by
  obtain ⟨p', c', e, _, _, hx⟩ := h
  cases e
  obtain ⟨h1, b, o, x, y, h2, h3, h4, h5, h6⟩ := hx j m hj
  exact ⟨b, o, x, y, h2, h3, h4, h1, h5, h6⟩
end Go.Proofs.YtdckddkalgnlpaaGreatDoor
namespace Go.Proofs.YtdckddkalgnlpaaGreatDoor
open Go.RowKit
theorem cell_of_blkP {w : World} {g : Nat} {cur : Array Value} {t : TypeId} {r : Nat × Nat} (h : w.heap[g]? = some (.cells cur t r)) {j : Nat} {u : Value} (hu : cur[j]? = some u) : w.cell? ⟨g, j, none⟩ = some u := by simp [World.cell?, h, hu]
/-- block b holds the printer: p its builder's own address, l its bytes -/
structure PrAt (B b : Nat) (p : Value) (l : List UInt8) (deep : Int) (w : World) : Prop where
  hB : B ≤ b
  ex : ∃ v, w.heap[b]? = some (.cells #[p, v, .int .i64 deep] 87 (0, 0)) ∧ w.ownsRow B 5 1 v l.length (Lib.byteCells l) ∧ (l = [] → v = .slice none 0 0)
def PrSt (B b : Nat) (l : List UInt8) (deep : Int) (w : World) : Prop := PrAt B b (.pointer none) l deep w ∨ PrAt B b (.pointer (some ⟨b, 0, none⟩)) l deep w
/-- what a write leaves as it was -/
structure Pk (B b : Nat) (w w' : World) : Prop where
  below : Below B w w'
  others : Lib.OthersKept 5 (some b) w w'
theorem Pk.refl (B b : Nat) (w : World) : Pk B b w w := ⟨Below.refl _ _, Lib.OthersKept.refl _ _ _⟩
theorem Pk.trans {B b : Nat} {u v w : World} (h : Pk B b u v) (k : Pk B b v w) : Pk B b u w := ⟨h.below.trans k.below, h.others.trans k.others⟩
theorem Pk.alloc {B b : Nat} {u v : World} (h : Pk B b u v) (hB : B ≤ v.heap.size) (o : Obj) : Pk B b u (v.alloc o) := ⟨h.below.alloc hB o, h.others.alloc o⟩
theorem Pk.set {B b : Nat} {u v : World} (h : Pk B b u v) (hB : B ≤ b) (i : Nat) (x : Value) : Pk B b u (v.setCell ⟨b, i, none⟩ x) := ⟨h.below.setCell (p := ⟨b, i, none⟩) hB x, h.others.setCell ⟨b, i, none⟩ rfl x⟩
section
variable {B b : Nat} {p : Value} {l : List UInt8} {deep : Int} {w w' : World}
theorem PrAt.lt (h : PrAt B b p l deep w) : b < w.heap.size := by
  obtain ⟨v, hb, _⟩ := h.ex
  exact (Array.getElem?_eq_some_iff.1 hb).1
theorem PrSt.lt (h : PrSt B b l deep w) : b < w.heap.size := h.elim (·.lt) (·.lt)
theorem PrSt.hB (h : PrSt B b l deep w) : B ≤ b := h.elim (·.hB) (·.hB)
theorem PrAt.next (h : PrAt B b p l deep w) (hb : Below w.heap.size w w') : PrAt B b p l deep w' := by
  obtain ⟨v, hc, ho, hn⟩ := h.ex
  exact ⟨h.hB, v, (hb.block b h.lt).trans hc, own_below ho hb, hn⟩
theorem PrSt.next (h : PrSt B b l deep w) (hb : Below w.heap.size w w') : PrSt B b l deep w' := h.imp (·.next hb) (·.next hb)
end
end Go.Proofs.YtdckddkalgnlpaaGreatDoor
namespace Go.Proofs.YtdckddkalgnlpaaGreatDoor
open Go.RowKit
theorem SlStr.len {w : World} {v : Value} {l : List ByteArray} (h : SlStr w v l) : l.length ≤ maxLen := by
  obtain ⟨p, c, e, h1, _⟩ := h; exact h1
def methV (m : Tr.M) (x y : Value) : Value := .agg #[.string m.name, x, y]
def classV (c : Tr.C) (x y : Value) : Value := .agg #[.string c.name, .bool c.actor, x, y]
end Go.Proofs.YtdckddkalgnlpaaGreatDoor
namespace Go.Proofs.YtdckddkalgnlpaaGreatDoor
open Go.RowKit
/-- the package-level variables that printing reads -/
structure PrEnv (w : World) : Prop where
  ops : ∀ o : Nat, o ≤ 12 → w.cell? ⟨2, o * 2, none⟩ = some (.string ⟨(Sy.sym o).toArray⟩) ∧ w.cell? ⟨2, o * 2 + 1, none⟩ = some (.int .i64 (Sy.opLevel o : Nat))
  tab : Lib.TabIs Tryz.prog w "internal/strconv.uint64pow10" .u64 Lib.pow10Tab
theorem PrEnv.lt {w : World} (h : PrEnv w) : 2 < w.heap.size := cell_lt' (h.ops 0 (by omega)).1
/-- what a printing call is given: the printer in block b, everything else below B as it was at w0 -/
structure PrIn (w0 : World) (B b : Nat) (l : List UInt8) (deep : Int) (w : World) : Prop where
  st : PrSt B b l deep w
  base : Below w0.heap.size w0 w
  le : w0.heap.size ≤ B
  leB : B ≤ w.heap.size
def PrPost (B b : Nat) (l t : List UInt8) (deep : Int) (w : World) (e : Ending) (w' : World) : Prop :=
  e = .returned (.tuple #[]) ∧ PrSt B b (l ++ t) deep w' ∧ Pk B b w w'
section
variable {w0 : World} {B b : Nat} {l : List UInt8} {deep : Int} {w w' : World}
theorem PrIn.next (h : PrIn w0 B b l deep w) {l' : List UInt8} (hs : PrSt B b l' deep w') (hk : Pk B b w w') : PrIn w0 B b l' deep w' :=
  ⟨hs, h.base.trans (hk.below.mono h.le), h.le, Nat.le_trans h.leB hk.below.size⟩
theorem PrIn.lt (h : PrIn w0 B b l deep w) : b < w.heap.size := h.st.lt
theorem PrIn.ne (h : PrIn w0 B b l deep w) : w.heap.size ≠ b := by have := h.lt; omega
theorem PrIn.pk (h : PrIn w0 B b l deep w) (o : Obj) : Pk B b w (w.alloc o) := (Pk.refl B b w).alloc h.leB o
theorem PrPost.of (h : Pk B b w w') {l1 l2 t : List UInt8} {e : Ending} {W : World} (hp : PrPost B b l1 l2 deep w' e W) (ht : l1 ++ l2 = l ++ t) : PrPost B b l t deep w e W :=
  ⟨hp.1, ht ▸ hp.2.1, h.trans hp.2.2⟩
end
end Go.Proofs.YtdckddkalgnlpaaGreatDoor
namespace Go.Proofs
open Go.Shelf
def Tryz.lays193_ren : Go.Shelf.Ren := ⟨fun | 193 => 84 | n => n, fun | 31 => 46 | 9 => 9 | 4 => 4 | 3 => 3 | 0 => 0 | n => n, fun | n => n⟩
theorem Tryz.lays193 : Go.Proofs.Lays.n193 Tryz.prog Tryz.lays193_ren := {
  mixed := by kernel_rfl
  f193 := Tryz.func84.trans (congrArg some (by kernel_rfl))
  t0 := Tryz.underlying0
  a0 := Tryz.isAgg0
  z0 := Tryz.sizeOf0
  v0 := Tryz.zeroValue0
  t3 := Tryz.underlying3
  a3 := Tryz.isAgg3
  z3 := Tryz.sizeOf3
  v3 := Tryz.zeroValue3
  t4 := Tryz.underlying4
  a4 := Tryz.isAgg4
  z4 := Tryz.sizeOf4
  v4 := Tryz.zeroValue4
  t9 := Tryz.underlying9
  a9 := Tryz.isAgg9
  z9 := Tryz.sizeOf9
  v9 := Tryz.zeroValue9
  t31 := Tryz.underlying46
  a31 := Tryz.isAgg46
  z31 := Tryz.sizeOf46
  v31 := Tryz.zeroValue46 }
open Go.RowKit Go.Lib in
/-- slices.Equal at []string: "Equal reports whether two slices are equal: the same length and all elements equal. If the lengths are different, Equal returns false. Otherwise, the elements are compared in increasing index order, and the comparison stops at the first unequal pair. Empty and nil slices are considered equal.": IT RETURNS WHETHER THE TWO LISTS OF ELEMENTS ARE ONE; the world is as it was but for the count of draws (the test 's1[i] != s2[i]' has two reads, whose order the model draws, once a round). 'xs', 'ys': what the cells behind the two addresses hold (the spare capacity too, if you have it); 'xs.take n', 'ys.take m': the elements. THE TWO SLICES MAY OVERLAP. (LAID: no walk: one application.) -/
theorem Tryz.slices_Equal_string (b1 o1 n c b2 o2 m d : Nat) (xs ys : List ByteArray) (w : World) (hx : n ≤ xs.length) (hy : m ≤ ys.length) (hbig : n ≤ 9223372036854775807) (hbig2 : m ≤ 9223372036854775807) (hc1 : ∀ j, j < xs.length → w.cell? ⟨b1, o1 + j, none⟩ = some (.string (xs.getD j ByteArray.empty))) (hc2 : ∀ j, j < ys.length → w.cell? ⟨b2, o2 + j, none⟩ = some (.string (ys.getD j ByteArray.empty))) :
    Calls Tryz.prog 84 #[.slice (some ⟨b1, o1, none⟩) n c, .slice (some ⟨b2, o2, none⟩) m d] w fun e w' => e = .returned (.bool (decide (xs.take n = ys.take m))) ∧ ∃ q, w' = w.drewN q := Any.slices_Equal_string Tryz.lays193 b1 o1 n c b2 o2 m d xs ys w hx hy hbig hbig2 hc1 hc2
open Go.RowKit Go.Lib in
/-- The same where the first is of length 0 (a nil one too): no cell is asked for. (LAID: no walk: one application.) -/
theorem Tryz.slices_Equal_string_empty (a1 a2 : Option Addr) (c m d : Nat) (w : World) (hbig2 : m ≤ 9223372036854775807) :
    Calls Tryz.prog 84 #[.slice a1 0 c, .slice a2 m d] w fun e w' => e = .returned (.bool (decide (m = 0))) ∧ w' = w := Any.slices_Equal_string_empty Tryz.lays193 a1 a2 c m d w hbig2
end Go.Proofs
namespace Go.Proofs.YtdckddkalgnlpaaGreatDoor
open Go.RowKit
theorem Pk.of_below {B b : Nat} {w w' : World} (h : Below w.heap.size w w') (hB : B ≤ w.heap.size) : Pk B b w w' :=
  ⟨h.mono hB, fun k _ hk _ _ => (h.block k (Array.getElem?_eq_some_iff.1 hk).1).trans hk⟩
theorem PrIn.below {w0 : World} {B b : Nat} {l : List UInt8} {deep : Int} {w w' : World} (h : PrIn w0 B b l deep w) (hb : Below w.heap.size w w') : PrIn w0 B b l deep w' :=
  h.next (h.st.next hb) (Pk.of_below hb h.leB)
end Go.Proofs.YtdckddkalgnlpaaGreatDoor
namespace Go.Proofs.YtdckddkalgnlpaaGreatDoor
open Go.RowKit
namespace Sy
theorem level_pos (e : Tr.E) : 1 ≤ level e := by
  obtain ⟨k, o, i, nm, a, l⟩ := e
  show 1 ≤ levelK k o a
  unfold levelK opLevel
  repeat' split
  all_goals omega
end Sy
end Go.Proofs.YtdckddkalgnlpaaGreatDoor
namespace Go.Proofs.YtdckddkalgnlpaaGreatDoor
open Go.RowKit
theorem tab_keep {w w' : World} (ht : Lib.TabIs Tryz.prog w "internal/strconv.uint64pow10" .u64 Lib.pow10Tab) (hb : Below w.heap.size w w') : Lib.TabIs Tryz.prog w' "internal/strconv.uint64pow10" .u64 Lib.pow10Tab := by
  have hgn : Tryz.prog.globalNamed "internal/strconv.uint64pow10" = some 9 := by kernel_rfl
  unfold Lib.TabIs World.var? at ht ⊢
  rw [hgn] at ht ⊢
  simp only [Option.bind_some] at ht ⊢
  have hlt : 9 < w.heap.size := by
    rcases Nat.lt_or_ge 9 w.heap.size with h' | h'
    · exact h'
    · rw [Array.getElem?_eq_none h'] at ht
      simp at ht
  rw [hb.block _ hlt]
  exact ht
end Go.Proofs.YtdckddkalgnlpaaGreatDoor
namespace Go.Proofs.YtdckddkalgnlpaaGreatDoor
namespace Pa
open Tr
def kw (t : Bytes) : B := ⟨4, t, 0⟩
def sy (t : Bytes) : B := ⟨5, t, 0⟩
def nmT (t : Bytes) : B := ⟨2, t, 0⟩
def clT (t : Bytes) : B := ⟨3, t, 0⟩
def opT (o : Int) : B := if o = 11 ∨ o = 12 then kw (Sy.sym o) else sy (Sy.sym o)
def parT (req : Nat) (x : Nat × Toks) : Toks := if x.1 < req then sy [40] :: (x.2 ++ [sy [41]]) else x.2
def commasT : List Toks → Toks
  | [] => []
  | [x] => x
  | x :: y :: r => x ++ sy [44] :: commasT (y :: r)
def nodeT (k o i : Int) (nm : Bytes) (a : Bool) (ts : List (Nat × Toks)) : Toks :=
  if k = 0 then [⟨1, dec i.toNat, i.toNat⟩]
  else if k = 1 then [kw [110, 105, 108]]
  else if k = 2 then [kw [116, 104, 105, 115]]
  else if k = 3 then [nmT nm]
  else if k = 4 then parT 8 (ts.headD (9, [])) ++ [sy [46], nmT nm]
  else if k = 5 then
    if a then kw [110, 101, 119] :: clT nm :: sy [40] :: (commasT (ts.dropLast.map Prod.snd) ++ sy [41] :: kw [97, 116] :: parT 7 (ts.getLastD (9, [])))
    else kw [110, 101, 119] :: clT nm :: sy [40] :: (commasT (ts.map Prod.snd) ++ [sy [41]])
  else if k = 6 then kw [119, 101, 97, 107] :: parT 7 (ts.headD (9, []))
  else if k = 7 then kw [103, 101, 116] :: parT 7 (ts.headD (9, []))
  else if k = 8 then sy [45] :: parT 7 (ts.headD (9, []))
  else if k = 9 then kw [110, 111, 116] :: parT 3 (ts.headD (9, []))
  else parT (if Sy.opLevel o = 4 then 5 else Sy.opLevel o) (ts.headD (9, [])) ++ opT o :: parT (Sy.opLevel o + 1) ((ts.drop 1).headD (9, []))
mutual
def toks : E → Toks
  | .mk k o i nm a l => nodeT k o i nm.data.toList a (tokss l)
def tokss : List E → List (Nat × Toks)
  | [] => []
  | e :: r => (Sy.level e, toks e) :: tokss r
end
section
variable {α β : Type}
def Ok (p : Nat → R α) (a : α) (r : Toks) : Prop := ∃ F, ∀ f, F ≤ f → p f = .ok a r
def Reach (p q : Nat → R α) : Prop := ∃ F D, ∀ f, F ≤ f → ∃ g, f ≤ g + D ∧ p f = q g
theorem Ok.step {P body : Nat → R α} {a : α} {r : Toks} (h : ∀ f, P (f + 1) = body f) (hb : Ok body a r) : Ok P a r := by
  obtain ⟨F, hb⟩ := hb
  refine ⟨F + 1, fun f hf => ?_⟩
  obtain ⟨g, rfl⟩ : ∃ g, f = g + 1 := ⟨f - 1, by omega⟩
  rw [h, hb g (by omega)]
theorem Reach.ok {p q : Nat → R α} {a : α} {r : Toks} (h : Reach p q) (h2 : Ok q a r) : Ok p a r := by
  obtain ⟨F, D, h⟩ := h
  obtain ⟨G, h2⟩ := h2
  refine ⟨F + G + D, fun f hf => ?_⟩
  obtain ⟨g, hg, e⟩ := h f (by omega)
  rw [e, h2 g (by omega)]
theorem Reach.step {P q : Nat → R α} (h : ∀ f, P (f + 1) = q f) : Reach P q := ⟨1, 1, fun f hf => ⟨f - 1, by omega, by
  obtain ⟨g, rfl⟩ : ∃ g, f = g + 1 := ⟨f - 1, by omega⟩
  rw [h]; rfl⟩⟩
end
/-! ### what the next token is -/
theorem is_cons (t : Bytes) (x : B) (r : Toks) : is t (x :: r) = (x.text == t && (x.kind == 4 || x.kind == 5)) := rfl
theorem is_app {t : Bytes} {a : Toks} (b : Toks) (h : a ≠ []) : is t (a ++ b) = is t a := by
  cases a with
  | nil => exact absurd rfl h
  | cons x r => rfl
/-- behind it no expression of a level goes on -/
def Stop (lv : Nat) (r : Toks) : Prop := is [46] r = false ∧ is [97, 116] r = false ∧ ∀ o : Int, 0 ≤ o → o ≤ 12 → lv + 1 ≤ Sy.opLevel o → is (Sy.sym o) r = false
theorem Stop.mono {a b : Nat} {r : Toks} (h : Stop a r) (hab : a ≤ b) : Stop b r := ⟨h.1, h.2.1, fun o h0 h1 h2 => h.2.2 o h0 h1 (by omega)⟩
/-! ### the levels, one by one -/
theorem pE_0 (f : Nat) (ts : Toks) : pE (f + 1) 0 ts = (pE f 1 ts).bind fun a r => pL f 1 [12] a r := by rw [pE]; rfl
theorem pE_1 (f : Nat) (ts : Toks) : pE (f + 1) 1 ts = (pE f 2 ts).bind fun a r => pL f 2 [11] a r := by rw [pE]; rfl
theorem pE_2 (f : Nat) (ts : Toks) : pE (f + 1) 2 ts = if is [110, 111, 116] ts then (pE f 2 ts.tail).bind fun a r => .ok (un 9 a) r else pE f 3 ts := by rw [pE]; rfl
theorem pE_3 (f : Nat) (ts : Toks) : pE (f + 1) 3 ts = (pE f 4 ts).bind fun a r => match opOf [5, 6, 7, 8, 9, 10] r with | some o => (pE f 4 r.tail).bind fun b r => .ok (bin o a b) r | none => .ok a r := by rw [pE]; rfl
theorem pE_4 (f : Nat) (ts : Toks) : pE (f + 1) 4 ts = (pE f 5 ts).bind fun a r => pL f 5 [0, 1] a r := by rw [pE]; rfl
theorem pE_5 (f : Nat) (ts : Toks) : pE (f + 1) 5 ts = (pE f 6 ts).bind fun a r => pL f 6 [2, 3, 4] a r := by rw [pE]; rfl
theorem pE_6 (f : Nat) (ts : Toks) : pE (f + 1) 6 ts = if is [45] ts then (pE f 6 ts.tail).bind fun a r => .ok (un 8 a) r else if is [119, 101, 97, 107] ts then (pE f 6 ts.tail).bind fun a r => .ok (un 6 a) r else if is [103, 101, 116] ts then (pE f 6 ts.tail).bind fun a r => .ok (un 7 a) r else pE f 7 ts := by rw [pE]; rfl
theorem pE_7 (f : Nat) (ts : Toks) : pE (f + 1) 7 ts = (pO f ts).bind fun a r => pF f a r := by rw [pE]; rfl
theorem pL_s (f lv : Nat) (ops : List Int) (a : E) (ts : Toks) : pL (f + 1) lv ops a ts = match opOf ops ts with | some o => (pE f lv ts.tail).bind fun b r => pL f lv ops (bin o a b) r | none => .ok a ts := by rw [pL]; cases opOf ops ts <;> rfl
theorem pF_s (f : Nat) (a : E) (ts : Toks) : pF (f + 1) a ts = if is [46] ts then (word 2 ts.tail).bind fun n r => pF f (fld n a) r else .ok a ts := by rw [pF]
end Pa
end Go.Proofs.YtdckddkalgnlpaaGreatDoor
namespace Go.Proofs.YtdckddkalgnlpaaGreatDoor
namespace Pa
open Tr
/-! ### the theorem -/
def LOps (L : Nat) (ops : List Int) : Prop := (L = 1 ∧ ops = [12]) ∨ (L = 2 ∧ ops = [11]) ∨ (L = 5 ∧ ops = [0, 1]) ∨ (L = 6 ∧ ops = [2, 3, 4])
structure RtE (e : E) : Prop where
  pe : ∀ lv rest, lv ≤ 7 → lv + 1 ≤ Sy.level e → Stop lv rest → Ok (fun f => pE f lv (toks e ++ rest)) e rest
  pl : ∀ L ops rest, LOps L ops → L ≤ Sy.level e → Stop L rest → Reach (fun f => pE f (L - 1) (toks e ++ rest)) (fun g => pL g L ops e rest)
  pf : ∀ rest, 8 ≤ Sy.level e → is [97, 116] rest = false → Reach (fun f => pE f 7 (toks e ++ rest)) (fun g => pF g e rest)
  po : ∀ rest, Sy.level e = 9 → is [97, 116] rest = false → Ok (fun f => pO f (toks e ++ rest)) e rest
  ne : toks e ≠ []
  no : 4 ≤ Sy.level e → is [110, 111, 116] (toks e) = false
  cl : is [41] (toks e) = false
  pre : 8 ≤ Sy.level e → is [45] (toks e) = false ∧ is [119, 101, 97, 107] (toks e) = false ∧ is [103, 101, 116] (toks e) = false
theorem LOps.le {L : Nat} {ops : List Int} (h : LOps L ops) : 1 ≤ L ∧ L ≤ 6 ∧ L ≠ 3 ∧ L ≠ 4 := by
  rcases h with ⟨rfl, _⟩ | ⟨rfl, _⟩ | ⟨rfl, _⟩ | ⟨rfl, _⟩ <;> omega
theorem pO_s (f : Nat) (x : B) (r : Toks) : pO (f + 1) (x :: r) = if x.kind = 1 then .ok (num x.val) r
    else if x.kind = 2 then .ok (var ⟨x.text.toArray⟩) r
    else if is [110, 105, 108] (x :: r) then .ok (leaf 1) r
    else if is [116, 104, 105, 115] (x :: r) then .ok (leaf 2) r
    else if is [40] (x :: r) then (pE f 0 r).bind fun a r => (expect [41] r).bind fun _ r => .ok a r
    else if is [110, 101, 119] (x :: r) then
      (word 3 r).bind fun n r => (pA f r).bind fun l r =>
        if is [97, 116] r then (pE f 6 r.tail).bind fun b r => .ok (new n true (l ++ [b])) r else .ok (new n false l) r
    else .bad (x :: r) := by rw [pO]
theorem level_pos (e : E) : 1 ≤ Sy.level e := by
  obtain ⟨k, o, i, nm, a, l⟩ := e
  unfold Sy.level Sy.levelK Sy.opLevel
  repeat' split
  all_goals omega
theorem pM_s (f : Nat) (l : List E) (ts : Toks) : pM (f + 1) l ts = if is [44] ts then (pE f 0 ts.tail).bind fun a r => pM f (l ++ [a]) r else (expect [41] ts).bind fun _ r => .ok l r := by rw [pM]
theorem pA_s (f : Nat) (ts : Toks) : pA (f + 1) ts = (expect [40] ts).bind fun _ r => if is [41] r then .ok [] r.tail else (pE f 0 r).bind fun a r => pM f [a] r := by rw [pA]
end Pa
end Go.Proofs.YtdckddkalgnlpaaGreatDoor
namespace Go.Proofs.YtdckddkalgnlpaaGreatDoor
namespace Pa
open Tr
/-! ### the first token of an operand -/
def First (ts : Toks) : Prop := ∃ x r, ts = x :: r ∧ (x.kind = 2 → r = []) ∧ (x.kind = 1 ∨ x.kind = 2 ∨ x.text = [110, 105, 108] ∨ x.text = [116, 104, 105, 115] ∨ x.text = [110, 101, 119] ∨ x.text = [40])
theorem First.is {ts : Toks} (h : First ts) (t : Bytes) (ht : t ∉ [[110, 105, 108], [116, 104, 105, 115], [110, 101, 119], [40]]) (rest : Toks) : is t (ts ++ rest) = false := by
  obtain ⟨x, r, rfl, _, h⟩ := h
  rw [List.cons_append, is_cons]
  rcases h with h | h | h | h | h | h
  · rw [h]; simp
  · rw [h]; simp
  all_goals
    rw [h, Bool.and_eq_false_iff]
    refine .inl (beq_eq_false_iff_ne.2 fun hc => ht ?_)
    rw [← hc]
    simp
/-! ### statements -/
theorem pS_s (f : Nat) (ts : Toks) : pS (f + 1) ts =
    if is [105, 102] ts then (pE f 0 ts.tail).bind fun e r => (pB f r).bind fun b r =>
      if is [101, 108, 115, 101] r then (pB f r.tail).bind fun l r => .ok (.mk 3 ⟨#[]⟩ [e] b l) r else .ok (.mk 3 ⟨#[]⟩ [e] b []) r
    else if is [119, 104, 105, 108, 101] ts then (pE f 0 ts.tail).bind fun e r => (pB f r).bind fun b r => .ok (.mk 4 ⟨#[]⟩ [e] b []) r
    else (pSimple f ts).bind fun s r => (expect [59] r).bind fun _ r => .ok s r := by rw [pS]
theorem pB_s (f : Nat) (ts : Toks) : pB (f + 1) ts = (expect [123] ts).bind fun _ r => pSs f [] r := by rw [pB]
theorem pSs_s (f : Nat) (l : List S) (ts : Toks) : pSs (f + 1) l ts = if is [125] ts then .ok l ts.tail else (pS f ts).bind fun s r => pSs f (l ++ [s]) r := by rw [pSs]
theorem pSend_s (f : Nat) (a : E) (n : ByteArray) (ts : Toks) : pSend (f + 1) a n ts = if is [46] ts then (word 2 ts.tail).bind fun m r => pSend f (fld n a) m r else (pA f ts).bind fun l r => .ok (.mk 5 n (a :: l) [] []) r := by rw [pSend]
theorem whole {e : E} (h : RtE e) {rest : Toks} (hs : Stop 0 rest) : Ok (fun f => pE f 0 (toks e ++ rest)) e rest := h.pe 0 rest (by omega) (level_pos e) hs
/-! ### classes -/
theorem pFields_s (f : Nat) (l : List ByteArray) (ts : Toks) : pFields (f + 1) l ts = if is [118, 97, 114] ts then (word 2 ts.tail).bind fun n r => (expect [59] r).bind fun _ r => pFields f (l ++ [n]) r else .ok l ts := by rw [pFields]
theorem pParam_s (f : Nat) (l : List ByteArray) (ts : Toks) : pParam (f + 1) l ts = if is [44] ts then (word 2 ts.tail).bind fun n r => pParam f (l ++ [n]) r else (expect [41] ts).bind fun _ r => .ok l r := by rw [pParam]
theorem pMs_s (f : Nat) (l : List M) (ts : Toks) : pMs (f + 1) l ts = if is [111, 110] ts then (word 2 ts.tail).bind fun n r => (pParams f r).bind fun p r => (pB f r).bind fun b r => pMs f (l ++ [⟨n, p, b⟩]) r else .ok l ts := by rw [pMs]
theorem pP_s (f : Nat) (l : List C) (ts : Toks) : pP (f + 1) l ts = if (ts.headD default).kind = 0 then .ok l ts else (pC f ts).bind fun c r => pP f (l ++ [c]) r := by rw [pP]
end Pa
end Go.Proofs.YtdckddkalgnlpaaGreatDoor
namespace Go.Proofs.YtdckddkalgnlpaaGreatDoor
open Go.RowKit
/-- what one world's cells hold, the other's hold -/
def Inc (w w' : World) : Prop := w.heap.size ≤ w'.heap.size ∧ ∀ b o v, w.cell? ⟨b, o, none⟩ = some v → w'.cell? ⟨b, o, none⟩ = some v
theorem Inc.refl (w : World) : Inc w w := ⟨Nat.le_refl _, fun _ _ _ h => h⟩
theorem Inc.trans {a b c : World} (h : Inc a b) (h2 : Inc b c) : Inc a c := ⟨Nat.le_trans h.1 h2.1, fun b o v hv => h2.2 b o v (h.2 b o v hv)⟩
theorem CellsE.inc {w w' : World} {b o : Nat} {e : Tr.E} {a : Value} (h : CellsE w b o e a) (hb : Inc w w') : CellsE w' b o e a :=
  ⟨hb.2 _ _ _ h.1, hb.2 _ _ _ h.2.1, hb.2 _ _ _ h.2.2.1, hb.2 _ _ _ h.2.2.2.1, hb.2 _ _ _ h.2.2.2.2.1, hb.2 _ _ _ h.2.2.2.2.2⟩
theorem CellsS.inc {w w' : World} {b o : Nat} {e : Tr.S} {x y z : Value} (h : CellsS w b o e x y z) (hb : Inc w w') : CellsS w' b o e x y z :=
  ⟨hb.2 _ _ _ h.1, hb.2 _ _ _ h.2.1, hb.2 _ _ _ h.2.2.1, hb.2 _ _ _ h.2.2.2.1, hb.2 _ _ _ h.2.2.2.2⟩
theorem SlE.inc {w w' : World} {v : Value} {l : List Tr.E} (h : SlE w v l) (hb : Inc w w') : SlE w' v l := by
  induction h with
  | nil p c => exact .nil p c
  | row b o c l A hn hm hc ha ih => exact .row b o c l A hn hm (fun j e hj => ⟨(hc j e hj).1.inc hb, (hc j e hj).2⟩) (fun j e hj => ih j e hj)
theorem SlS.inc {w w' : World} {v : Value} {l : List Tr.S} (h : SlS w v l) (hb : Inc w w') : SlS w' v l := by
  induction h with
  | nil p c => exact .nil p c
  | row b o c l X Y Z hn hm hc hx hy hz ih1 ih2 => exact .row b o c l X Y Z hn hm (fun j e hj => ⟨(hc j e hj).1.inc hb, (hc j e hj).2⟩) (fun j e hj => (hx j e hj).inc hb) (fun j e hj => ih1 j e hj) (fun j e hj => ih2 j e hj)
theorem SlStr.inc {w w' : World} {v : Value} {l : List ByteArray} (h : SlStr w v l) (hb : Inc w w') : SlStr w' v l := by
  obtain ⟨p, c, e, hl, hn, hx⟩ := h
  refine ⟨p, c, e, hl, hn, fun j s hj => ?_⟩
  obtain ⟨hs, b, o, e2, h1, h2⟩ := hx j s hj
  exact ⟨hs, b, o, e2, Nat.lt_of_lt_of_le h1 hb.1, hb.2 _ _ _ h2⟩
theorem SlM.inc {w w' : World} {v : Value} {l : List Tr.M} (h : SlM w v l) (hb : Inc w w') : SlM w' v l := by
  obtain ⟨p, c, e, hl, hn, hx⟩ := h
  refine ⟨p, c, e, hl, hn, fun j s hj => ?_⟩
  obtain ⟨hs, b, o, x, y, e2, h1, h2, h3, h4⟩ := hx j s hj
  exact ⟨hs, b, o, x, y, e2, Nat.lt_of_lt_of_le h1 hb.1, ⟨hb.2 _ _ _ h2.1, hb.2 _ _ _ h2.2.1, hb.2 _ _ _ h2.2.2⟩, h3.inc hb, h4.inc hb⟩
theorem SlC.inc {w w' : World} {v : Value} {l : List Tr.C} (h : SlC w v l) (hb : Inc w w') : SlC w' v l := by
  obtain ⟨p, c, e, hl, hn, hx⟩ := h
  refine ⟨p, c, e, hl, hn, fun j s hj => ?_⟩
  obtain ⟨hs, b, o, x, y, e2, h1, h2, h3, h4⟩ := hx j s hj
  exact ⟨hs, b, o, x, y, e2, Nat.lt_of_lt_of_le h1 hb.1, ⟨hb.2 _ _ _ h2.1, hb.2 _ _ _ h2.2.1, hb.2 _ _ _ h2.2.2.1, hb.2 _ _ _ h2.2.2.2⟩, h3.inc hb, h4.inc hb⟩
/-- the world with the blocks in S out of sight -/
def hide (S : Nat → Bool) (w : World) : World := { w with heap := w.heap.mapIdx fun i o => if S i then .cells #[] 0 (0, 0) else o }
theorem hide_size (S : Nat → Bool) (w : World) : (hide S w).heap.size = w.heap.size := by simp [hide]
theorem hide_heap {S : Nat → Bool} {w : World} {k : Nat} (h : S k = false) : (hide S w).heap[k]? = w.heap[k]? := by
  unfold hide
  rw [Array.getElem?_mapIdx, h]
  cases w.heap[k]? <;> rfl
theorem hide_cell? {S : Nat → Bool} {w : World} {b o : Nat} (h : S b = false) : (hide S w).cell? ⟨b, o, none⟩ = w.cell? ⟨b, o, none⟩ := by
  unfold World.cell?
  rw [hide_heap h]
theorem hide_cell {S : Nat → Bool} {w : World} {b o : Nat} {v : Value} (h : (hide S w).cell? ⟨b, o, none⟩ = some v) : S b = false ∧ w.cell? ⟨b, o, none⟩ = some v := by
  cases hs : S b with
  | false => rw [hide_cell? hs] at h; exact ⟨rfl, h⟩
  | true =>
    exfalso
    unfold World.cell? at h
    have : (hide S w).heap[b]? = (w.heap[b]?).map fun _ => .cells #[] 0 (0, 0) := by
      unfold hide
      rw [Array.getElem?_mapIdx, hs]
      cases w.heap[b]? <;> rfl
    simp only [this] at h
    cases hb : w.heap[b]? with
    | none => rw [hb] at h; simp at h
    | some o => rw [hb] at h; simp at h
theorem hide_inc (S : Nat → Bool) (w : World) : Inc (hide S w) w := ⟨by rw [hide_size]; exact Nat.le_refl _, fun _ _ _ h => (hide_cell h).2⟩
theorem hide_step {S S' : Nat → Bool} {w w' : World} {row : Option Nat} (hg : w.grownBy w' row) (h1 : ∀ k, row = some k → S k = true) (h2 : ∀ k, k < w.heap.size → S' k = true → S k = true) : Inc (hide S w) (hide S' w') := by
  refine ⟨by rw [hide_size, hide_size]; exact hg.size, fun b o v h => ?_⟩
  obtain ⟨hs, hc⟩ := hide_cell h
  have hlt := cell_lt' hc
  have hs' : S' b = false := by
    cases hb : S' b with
    | false => rfl
    | true => rw [h2 b hlt hb] at hs; cases hs
  rw [hide_cell? hs']
  have hb := hg.block b hlt (fun e => by rw [h1 b e.symm] at hs; cases hs)
  unfold World.cell? at hc ⊢
  rw [hb]
  exact hc
theorem hide_own {S : Nat → Bool} {w : World} {base : Nat} {e : TypeId} {size n : Nat} {v : Value} {xs : List Value} (h : w.ownsRow base e size v n xs) (hs : ∀ k, v.ownBlock = some k → S k = false) : (hide S w).ownsRow base e size v n xs := by
  refine ⟨h.1, ?_⟩
  rcases h.2 with hn | ⟨g, cap, cur, rfl, hb, hg, rest⟩
  · exact .inl hn
  · exact .inr ⟨g, cap, cur, rfl, hb, by rw [hide_heap (hs g rfl)]; exact hg, rest⟩
end Go.Proofs.YtdckddkalgnlpaaGreatDoor
namespace Go.Proofs.YtdckddkalgnlpaaGreatDoor
namespace Pw
open Go.RowKit Go.Maps
theorem cell_of_blkP {w : World} {g : Nat} {cur : Array Value} {t : TypeId} {r : Nat × Nat} (h : w.heap[g]? = some (.cells cur t r)) {j : Nat} {u : Value} (hu : cur[j]? = some u) : w.cell? ⟨g, j, none⟩ = some u := by simp [World.cell?, h, hu]
theorem new_at {w : World} {o : Obj} {n : Nat} (h : w.heap.size = n) : (w.alloc o).heap[n]? = some o := by subst h; exact (MapKept.heap_alloc w o).1
theorem heap_set {w : World} {P j : Nat} {cs : Array Value} {t : TypeId} {r : Nat × Nat} (u : Value) (h : w.heap[P]? = some (.cells cs t r)) : (w.setCell ⟨P, j, none⟩ u).heap[P]? = some (.cells (cs.setIfInBounds j u) t r) := by
  have hlt := lt_of_block h
  have h' : w.heap[P] = .cells cs t r := by simpa [Array.getElem?_eq_getElem hlt] using h
  show (w.heap.modify P _)[P]? = _
  rw [Array.getElem?_eq_getElem (by simpa using hlt), Array.getElem_modify_self, h']
  rfl
theorem blk_free {w : World} {b : Nat} {cs : Array Value} {t : TypeId} (h : w.heap[b]? = some (.cells cs t (0, 0))) (i : Nat) : w.frozen? ⟨b, i, none⟩ = false := by simp [World.frozen?, h]
theorem grown_refl (w : World) (r : Option Nat) : w.grownBy w r := ⟨rfl, rfl, rfl, Nat.le_refl _, fun _ _ _ => rfl⟩
def ReadC (W : World) (x : Tr.C) (a1 a2 : Value) : Prop := x.name.size ≤ maxLen ∧ SlStr W a1 x.fields ∧ SlM W a2 x.methods
def ReadM (W : World) (x : Tr.M) (a1 a2 : Value) : Prop := x.name.size ≤ maxLen ∧ SlStr W a1 x.params ∧ SlS W a2 x.body
/-! ### a row of expressions in a block -/
def eCells (x : Tr.E × Value) : List Value := [.int .i64 x.1.kind, .int .i64 x.1.op, .int .i64 x.1.int, .string x.1.name, .bool x.1.at_, x.2]
theorem flat6 : ∀ (l : List (Tr.E × Value)) (j q : Nat) (x : Tr.E × Value), l[j]? = some x → q < 6 → (l.flatMap eCells)[j * 6 + q]? = (eCells x)[q]?
  | [], j, q, x, h, _ => by simp at h
  | y :: r, 0, q, x, h, hq => by
    cases h
    rw [List.flatMap_cons, Nat.zero_mul, Nat.zero_add, List.getElem?_append_left (by exact hq)]
  | y :: r, j + 1, q, x, h, hq => by
    have h2 := flat6 r j q x (by simpa using h) hq
    have h6 : (eCells y).length = 6 := rfl
    rw [List.flatMap_cons, List.getElem?_append_right (by rw [h6]; omega), h6, show (j + 1) * 6 + q - 6 = j * 6 + q by omega]
    exact h2
theorem slE_blk {w : World} {g : Nat} {cs : Array Value} {t : TypeId} (h : w.heap[g]? = some (.cells cs t (0, 0))) (l : List (Tr.E × Value)) (hl : l.length ≤ 1000) (hc : cs.toList = l.flatMap eCells) (hr : ∀ x ∈ l, BdE x.1 ∧ SlE w x.2 x.1.args) :
    SlE w (.slice (some ⟨g, 0, none⟩) l.length l.length) (l.map Prod.fst) := by
  have hlen : (l.map Prod.fst).length = l.length := List.length_map _
  have hget : ∀ j e, (l.map Prod.fst)[j]? = some e → ∃ x : Tr.E × Value, l[j]? = some x ∧ x.1 = e := fun j e hj => by
    rw [List.getElem?_map, Option.map_eq_some_iff] at hj
    exact hj
  have key := SlE.row (w := w) g 0 l.length (l.map Prod.fst) (fun j => (l[j]?.map Prod.snd).getD (.bool false)) (by rw [hlen]; exact Nat.le_refl _) (by unfold maxLen; omega) (fun j e hj => ?_) (fun j e hj => ?_)
  · rw [hlen] at key; exact key
  · obtain ⟨x, hx, rfl⟩ := hget j e hj
    have hat : ∀ q u, (eCells x)[q]? = some u → q < 6 → w.cell? ⟨g, j * 6 + q, none⟩ = some u := fun q u hu hq => cell_of_blkP h (by rw [← Array.getElem?_toList, hc, flat6 l j q x hx hq, hu])
    simp only [Nat.zero_add]
    have hv : ((l[j]?.map Prod.snd).getD (.bool false)) = x.2 := by rw [hx]; rfl
    rw [hv]
    exact ⟨⟨hat 0 _ rfl (by omega), hat 1 _ rfl (by omega), hat 2 _ rfl (by omega), hat 3 _ rfl (by omega), hat 4 _ rfl (by omega), hat 5 _ rfl (by omega)⟩, (hr x (List.mem_of_getElem? hx)).1⟩
  · obtain ⟨x, hx, rfl⟩ := hget j e hj
    have hv : ((l[j]?.map Prod.snd).getD (.bool false)) = x.2 := by rw [hx]; rfl
    rw [hv]
    exact (hr x (List.mem_of_getElem? hx)).2
section
variable {α : Type} (f : α → List Value) (k : Nat)
def flatV (l : List α) : List Value := l.flatMap f
theorem flatV_append (l r : List α) : flatV f (l ++ r) = flatV f l ++ flatV f r := List.flatMap_append
theorem flatV_nil : flatV f [] = [] := rfl
theorem flatV_cons (x : α) (r : List α) : flatV f (x :: r) = f x ++ flatV f r := List.flatMap_cons
variable (hf : ∀ a, (f a).length = k)
include hf
theorem flatV_len : ∀ l : List α, (flatV f l).length = l.length * k
  | [] => by simp [flatV]
  | x :: r => by rw [flatV_cons, List.length_append, hf, flatV_len r, List.length_cons, Nat.add_mul, Nat.one_mul, Nat.add_comm]
theorem flatV_get : ∀ (l : List α) (j : Nat) (a : α) (i : Nat), i < k → l[j]? = some a → (flatV f l)[j * k + i]? = (f a)[i]?
  | [], j, a, i, _, h => by simp at h
  | x :: r, 0, a, i, hi, h => by
    simp only [List.getElem?_cons_zero, Option.some.injEq] at h
    subst h
    rw [flatV_cons, Nat.zero_mul, Nat.zero_add, List.getElem?_append_left (by rw [hf]; exact hi)]
  | x :: r, j + 1, a, i, hi, h => by
    rw [List.getElem?_cons_succ] at h
    rw [flatV_cons, List.getElem?_append_right (by rw [hf, Nat.add_mul]; omega), hf]
    have e : (j + 1) * k + i - k = j * k + i := by rw [Nat.add_mul]; omega
    rw [e]
    exact flatV_get r j a i hi h
theorem flatV_cells {w : World} {b : Nat} : ∀ (l : List α) (o : Nat), (∀ j a, l[j]? = some a → ∀ i u, (f a)[i]? = some u → w.cell? ⟨b, o + j * k + i, none⟩ = some u) → ∀ j u, (flatV f l)[j]? = some u → w.cell? ⟨b, o + j, none⟩ = some u
  | [], o, _, j, u, h => by simp [flatV] at h
  | x :: r, o, h, j, u, hj => by
    rw [flatV_cons] at hj
    by_cases hlt : j < k
    · rw [List.getElem?_append_left (by rw [hf]; exact hlt)] at hj
      have := h 0 x rfl j u hj
      rw [Nat.zero_mul, Nat.add_zero] at this
      exact this
    · rw [List.getElem?_append_right (by rw [hf]; omega), hf] at hj
      have := flatV_cells r (o + k) (fun j' a hj' i u hu => by
        have := h (j' + 1) a (by rw [List.getElem?_cons_succ]; exact hj') i u hu
        rw [Nat.add_mul, Nat.one_mul, Nat.add_comm (j' * k) k, ← Nat.add_assoc] at this
        exact this) (j - k) u hj
      have e : o + k + (j - k) = o + j := by omega
      rw [e] at this
      exact this
end
/-- an append's second argument -/
def SrcAt {α : Type} (w : World) (f : α → List Value) (v : Value) (l : List α) : Prop :=
  (l = [] ∧ ∃ p c, v = .slice p 0 c) ∨ ∃ b o c, v = .slice (some ⟨b, o, none⟩) l.length c ∧ ∀ j u, (flatV f l)[j]? = some u → w.cell? ⟨b, o + j, none⟩ = some u
theorem SrcAt.keep {α : Type} {f : α → List Value} {w w' : World} {v : Value} {l : List α} (h : SrcAt w f v l) (hb : Below w.heap.size w w') : SrcAt w' f v l := by
  rcases h with h | ⟨b, o, c, e, h⟩
  · exact .inl h
  · exact .inr ⟨b, o, c, e, fun j u hj => cell_keep' hb (h j u hj)⟩
theorem run_append_owned_empty {P : Program} {w : World} (base : Nat) (t ty e : TypeId) (i : TypeInfo) (size : Nat) (ht : P.underlying t = some (.slice e)) (hi : P.info? e = some i)
    (v : Value) (n : Nat) (xs : List Value) (hown : w.ownsRow base e size v n xs) (p : Option Addr) (c : Nat) :
    (Builtin.append_ #[t, t] ty #[v, .slice p 0 c]).run P w = .ok v w := by
  cases p with
  | none =>
    rcases hown.2 with ⟨rfl, rfl⟩ | ⟨g, cap, cur, rfl, _, _, hnc, _⟩
    · simp [Builtin.append_, run_underlying ht, sizeOf, typeInfo, hi, Builtin.lenOf, Builtin.firstCells]
    · simp [Builtin.append_, run_underlying ht, sizeOf, typeInfo, hi, Builtin.lenOf, Builtin.firstCells, hnc, storeCells]
  | some q =>
    rcases hown.2 with ⟨rfl, rfl⟩ | ⟨g, cap, cur, rfl, _, _, hnc, _⟩
    · simp [Builtin.append_, run_underlying ht, sizeOf, typeInfo, hi, Builtin.lenOf, Builtin.firstCells, loadCells, loadCellsFrom]
    · simp [Builtin.append_, run_underlying ht, sizeOf, typeInfo, hi, Builtin.lenOf, Builtin.firstCells, hnc, storeCells, loadCells, loadCellsFrom, storeCells]
/-- an append of a source to a row that the walk owns: the operation alone -/
theorem wp_append_src {P : Program} {α : Type} (f : α → List Value) (k : Nat) (hf : ∀ a, (f a).length = k)
    {w : World} {o : Oper} {a : Act} {K : Act → World → Prop} {Q : Exit → Act → World → Prop} (s x : Operand) (t : TypeId)
    (ho : o.op = .call { callee := .builtin .append, args := #[s, x], argTypes := #[t, t] })
    (base : Nat) (e : TypeId) (i : TypeInfo) (z : Value) (bytes : Nat) (ht : P.underlying t = some (.slice e)) (hi : P.info? e = some i) (hz : i.zero = some z)
    (hsize : i.size = k) (hby : i.bytes = bytes) (hzs : z.cells.size = k) (hsz : 0 < k)
    (v v2 : Value) (tr news : List α) (hs : a.eval s = v) (hx : a.eval x = v2) (hown : w.ownsRow base e k v tr.length (flatV f tr)) (hsrc : SrcAt w f v2 news) (h1 : ∀ a ∈ news, ∀ u ∈ f a, u.oneCell' = true)
    (h63 : tr.length + news.length ≤ maxLen) (hbytes : (tr.length + news.length) * bytes ≤ 140737488355328) (hbase : base ≤ w.heap.size)
    (h : ∀ v' w', w'.ownsRow base e k v' (tr ++ news).length (flatV f (tr ++ news)) → w.grownBy w' v.ownBlock → K (a.put o.dst v') w') : o.wp P a w K Q := by
  rcases hsrc with ⟨rfl, p, c, rfl⟩ | ⟨b, of, c, rfl, hc⟩
  · have hrun := run_append_owned_empty (P := P) (w := w) base t o.type e i k ht hi v _ _ hown p c
    unfold Oper.wp
    simp [execOp, ho, resolve, invoke, builtin, hs, hx, hrun, Result.andThen]
    exact h v w (by rw [List.append_nil]; exact hown) (grown_refl w _)
  · refine wp_append_own w s x t ho base e i z k bytes ht hi hz hsize hby hzs hsz v tr.length (flatV f tr) hs hown ⟨b, of, none⟩ news.length c (flatV f news) hx (flatV_len f k hf news) (fun j u hj => ?_) (fun u hu => ?_) h63 hbytes hbase fun v' w' a1 a2 _ => h v' w' ?_ a2
    · have e : (⟨b, of, none⟩ : Addr).add j = ⟨b, of + j, none⟩ := by unfold Addr.add; split <;> simp_all
      rw [e]; exact hc j u hj
    · unfold flatV at hu
      obtain ⟨x, hx1, hx⟩ := List.mem_flatMap.1 hu
      exact h1 x hx1 u hx
    · rw [List.length_append, flatV_append]; exact a1
theorem own_ge {w : World} {base : Nat} {e : TypeId} {size n : Nat} {v : Value} {xs : List Value} (h : w.ownsRow base e size v n xs) {q : Nat} (hq : v.ownBlock = some q) : base ≤ q ∧ ∃ cur, w.heap[q]? = some (.cells cur e (0, 0)) := by
  rcases h.2 with ⟨rfl, _⟩ | ⟨g, cap, cur, rfl, hb, hg, _⟩
  · cases hq
  · cases hq; exact ⟨hb, cur, hg⟩
/-! ### rows of classes and of methods -/
/-- a class and where its fields and methods lie -/
abbrev CT := Tr.C × Value × Value
abbrev MT := Tr.M × Value × Value
def cCells (x : CT) : List Value := [.string x.1.name, .bool x.1.actor, x.2.1, x.2.2]
def mCells (x : MT) : List Value := [.string x.1.name, x.2.1, x.2.2]
theorem cCells_len (x : CT) : (cCells x).length = 4 := rfl
theorem mCells_len (x : MT) : (mCells x).length = 3 := rfl
theorem SlStr.one {w : World} {v : Value} {l : List ByteArray} (h : SlStr w v l) : v.oneCell' = true := by
  obtain ⟨p, c, rfl, _⟩ := h; rfl
theorem SlS.one {w : World} {v : Value} {l : List Tr.S} (h : SlS w v l) : v.oneCell' = true := by
  obtain ⟨p, c, rfl, _⟩ := h.form; rfl
theorem SlM.one {w : World} {v : Value} {l : List Tr.M} (h : SlM w v l) : v.oneCell' = true := by
  obtain ⟨p, c, rfl, _⟩ := h; rfl
theorem cCells_one {w : World} {l : List CT} (h : ∀ x ∈ l, ReadC w x.1 x.2.1 x.2.2) : ∀ a ∈ l, ∀ u ∈ cCells a, u.oneCell' = true := by
  intro a ha u hu
  obtain ⟨_, h1, h2⟩ := h a ha
  simp only [cCells, List.mem_cons, List.not_mem_nil, or_false] at hu
  rcases hu with rfl | rfl | rfl | rfl
  · rfl
  · rfl
  · exact SlStr.one h1
  · exact SlM.one h2
theorem mCells_one {w : World} {l : List MT} (h : ∀ x ∈ l, ReadM w x.1 x.2.1 x.2.2) : ∀ a ∈ l, ∀ u ∈ mCells a, u.oneCell' = true := by
  intro a ha u hu
  obtain ⟨_, h1, h2⟩ := h a ha
  simp only [mCells, List.mem_cons, List.not_mem_nil, or_false] at hu
  rcases hu with rfl | rfl | rfl
  · rfl
  · exact SlStr.one h1
  · exact SlS.one h2
theorem own_cells {α : Type} {f : α → List Value} {k : Nat} (hf : ∀ a, (f a).length = k) {w : World} {base : Nat} {t : TypeId} {v : Value} {l : List α} (h : w.ownsRow base t k v l.length (flatV f l)) :
    (l = [] ∧ v = .slice none 0 0) ∨ ∃ g cap, v = .slice (some ⟨g, 0, none⟩) l.length cap ∧ g < w.heap.size ∧ l.length ≤ cap ∧ cap ≤ maxLen ∧ ∀ j a, l[j]? = some a → ∀ i u, (f a)[i]? = some u → w.cell? ⟨g, j * k + i, none⟩ = some u := by
  rcases h.2 with ⟨rfl, h0⟩ | ⟨g, cap, cur, rfl, _, hg, hnc, hcm, hcs, htk⟩
  · exact .inl ⟨List.eq_nil_of_length_eq_zero h0, rfl⟩
  · refine .inr ⟨g, cap, rfl, lt_of_block hg, hnc, hcm, fun j a hj i u hu => ?_⟩
    have hi : i < k := by have := (List.getElem?_eq_some_iff.1 hu).1; rw [hf] at this; exact this
    have h2 := flatV_get f k hf l j a i hi hj
    rw [hu] at h2
    have hlt := (List.getElem?_eq_some_iff.1 h2).1
    rw [flatV_len f k hf] at hlt
    rw [← htk, List.getElem?_take_of_lt hlt] at h2
    exact cell_of_blkP hg (by rw [← Array.getElem?_toList]; exact h2)
theorem slC_own {w : World} {base : Nat} {v : Value} {l : List CT} (h : w.ownsRow base 49 4 v l.length (flatV cCells l)) (hx : ∀ x ∈ l, ReadC w x.1 x.2.1 x.2.2) : SlC w v (l.map Prod.fst) := by
  rcases own_cells cCells_len h with ⟨rfl, rfl⟩ | ⟨g, cap, rfl, hg, hn, hm, hc⟩
  · exact ⟨_, _, rfl, Nat.zero_le _, fun h => absurd rfl h, fun j n hj => by simp at hj⟩
  · refine ⟨some ⟨g, 0, none⟩, cap, by rw [List.length_map], by rw [List.length_map]; omega, fun _ => by rw [List.length_map]; exact ⟨hn, hm⟩, fun j m hj => ?_⟩
    rw [List.getElem?_map, Option.map_eq_some_iff] at hj
    obtain ⟨a, ha, rfl⟩ := hj
    obtain ⟨h1, h2, h3⟩ := hx a (List.mem_of_getElem? ha)
    have c := hc j a ha
    exact ⟨h1, g, 0, a.2.1, a.2.2, rfl, hg, by rw [Nat.zero_add]; exact ⟨c 0 _ rfl, c 1 _ rfl, c 2 _ rfl, c 3 _ rfl⟩, h2, h3⟩
theorem slM_own {w : World} {base : Nat} {v : Value} {l : List MT} (h : w.ownsRow base 64 3 v l.length (flatV mCells l)) (hx : ∀ x ∈ l, ReadM w x.1 x.2.1 x.2.2) : SlM w v (l.map Prod.fst) := by
  rcases own_cells mCells_len h with ⟨rfl, rfl⟩ | ⟨g, cap, rfl, hg, hn, hm, hc⟩
  · exact ⟨_, _, rfl, Nat.zero_le _, fun h => absurd rfl h, fun j n hj => by simp at hj⟩
  · refine ⟨some ⟨g, 0, none⟩, cap, by rw [List.length_map], by rw [List.length_map]; omega, fun _ => by rw [List.length_map]; exact ⟨hn, hm⟩, fun j m hj => ?_⟩
    rw [List.getElem?_map, Option.map_eq_some_iff] at hj
    obtain ⟨a, ha, rfl⟩ := hj
    obtain ⟨h1, h2, h3⟩ := hx a (List.mem_of_getElem? ha)
    have c := hc j a ha
    exact ⟨h1, g, 0, a.2.1, a.2.2, rfl, hg, by rw [Nat.zero_add]; exact ⟨c 0 _ rfl, c 1 _ rfl, c 2 _ rfl⟩, h2, h3⟩
/-- a list that is read, as rows with where their parts lie -/
theorem SlC.rows {w : World} {v : Value} {cs : List Tr.C} (h : SlC w v cs) : ∃ l : List CT, l.map Prod.fst = cs ∧ (∀ x ∈ l, ReadC w x.1 x.2.1 x.2.2) ∧ SrcAt w cCells v l := by
  obtain ⟨p, c, rfl, hl, hn, hx⟩ := h
  by_cases h0 : cs = []
  · subst h0
    exact ⟨[], rfl, fun x hx => absurd hx (by simp), .inl ⟨rfl, p, c, rfl⟩⟩
  · obtain ⟨b, o, rfl⟩ : ∃ b o, p = some ⟨b, o, none⟩ := by
      cases cs with
      | nil => exact absurd rfl h0
      | cons a r => obtain ⟨_, b, o, _, _, e, _⟩ := hx 0 a rfl; exact ⟨b, o, e⟩
    have key : ∀ j, ∃ a : Value × Value, ∀ m, cs[j]? = some m → ReadC w m a.1 a.2 ∧ CellsC w b (o + j * 4) m a.1 a.2 := by
      intro j
      cases hj : cs[j]? with
      | none => exact ⟨(.bool false, .bool false), fun m hm => by cases hm⟩
      | some m =>
        obtain ⟨hnm, b', o', x, y, e, _, hc, h1, h2⟩ := hx j m hj
        cases e
        exact ⟨(x, y), fun m' hm => by cases hm; exact ⟨⟨hnm, h1, h2⟩, hc⟩⟩
    let A : Nat → Value × Value := fun j => Classical.choose (key j)
    have hA : ∀ j m, cs[j]? = some m → ReadC w m (A j).1 (A j).2 ∧ CellsC w b (o + j * 4) m (A j).1 (A j).2 := fun j => Classical.choose_spec (key j)
    have hget : ∀ (j : Nat) (x : CT), (cs.mapIdx fun j m => ((m, A j) : CT))[j]? = some x → cs[j]? = some x.1 ∧ x.2 = A j := by
      intro j x hj
      rw [List.getElem?_mapIdx, Option.map_eq_some_iff] at hj
      obtain ⟨m, hm, rfl⟩ := hj
      exact ⟨hm, rfl⟩
    refine ⟨cs.mapIdx fun j m => (m, A j), ?_, fun x hxm => ?_, .inr ⟨b, o, c, by rw [List.length_mapIdx], fun j u hj => ?_⟩⟩
    · apply List.ext_getElem?
      intro j
      rw [List.getElem?_map, List.getElem?_mapIdx, Option.map_map]
      cases cs[j]? <;> rfl
    · obtain ⟨j, hj, rfl⟩ := List.getElem_of_mem hxm
      obtain ⟨e1, e2⟩ := hget j _ (List.getElem?_eq_getElem hj)
      have := (hA j _ e1).1
      rw [← e2] at this
      exact this
    · refine flatV_cells cCells 4 cCells_len _ o (fun j a ha i u hu => ?_) j u hj
      obtain ⟨e1, e2⟩ := hget j a ha
      have h4 := (hA j _ e1).2
      rw [← e2] at h4
      match i, hu with
      | 0, hu => cases hu; exact h4.1
      | 1, hu => cases hu; exact h4.2.1
      | 2, hu => cases hu; exact h4.2.2.1
      | 3, hu => cases hu; exact h4.2.2.2
theorem SlM.rows {w : World} {v : Value} {cs : List Tr.M} (h : SlM w v cs) : ∃ l : List MT, l.map Prod.fst = cs ∧ (∀ x ∈ l, ReadM w x.1 x.2.1 x.2.2) ∧ SrcAt w mCells v l := by
  obtain ⟨p, c, rfl, hl, hn, hx⟩ := h
  by_cases h0 : cs = []
  · subst h0
    exact ⟨[], rfl, fun x hx => absurd hx (by simp), .inl ⟨rfl, p, c, rfl⟩⟩
  · obtain ⟨b, o, rfl⟩ : ∃ b o, p = some ⟨b, o, none⟩ := by
      cases cs with
      | nil => exact absurd rfl h0
      | cons a r => obtain ⟨_, b, o, _, _, e, _⟩ := hx 0 a rfl; exact ⟨b, o, e⟩
    have key : ∀ j, ∃ a : Value × Value, ∀ m, cs[j]? = some m → ReadM w m a.1 a.2 ∧ CellsM w b (o + j * 3) m a.1 a.2 := by
      intro j
      cases hj : cs[j]? with
      | none => exact ⟨(.bool false, .bool false), fun m hm => by cases hm⟩
      | some m =>
        obtain ⟨hnm, b', o', x, y, e, _, hc, h1, h2⟩ := hx j m hj
        cases e
        exact ⟨(x, y), fun m' hm => by cases hm; exact ⟨⟨hnm, h1, h2⟩, hc⟩⟩
    let A : Nat → Value × Value := fun j => Classical.choose (key j)
    have hA : ∀ j m, cs[j]? = some m → ReadM w m (A j).1 (A j).2 ∧ CellsM w b (o + j * 3) m (A j).1 (A j).2 := fun j => Classical.choose_spec (key j)
    have hget : ∀ (j : Nat) (x : MT), (cs.mapIdx fun j m => ((m, A j) : MT))[j]? = some x → cs[j]? = some x.1 ∧ x.2 = A j := by
      intro j x hj
      rw [List.getElem?_mapIdx, Option.map_eq_some_iff] at hj
      obtain ⟨m, hm, rfl⟩ := hj
      exact ⟨hm, rfl⟩
    refine ⟨cs.mapIdx fun j m => (m, A j), ?_, fun x hxm => ?_, .inr ⟨b, o, c, by rw [List.length_mapIdx], fun j u hj => ?_⟩⟩
    · apply List.ext_getElem?
      intro j
      rw [List.getElem?_map, List.getElem?_mapIdx, Option.map_map]
      cases cs[j]? <;> rfl
    · obtain ⟨j, hj, rfl⟩ := List.getElem_of_mem hxm
      obtain ⟨e1, e2⟩ := hget j _ (List.getElem?_eq_getElem hj)
      have := (hA j _ e1).1
      rw [← e2] at this
      exact this
    · refine flatV_cells mCells 3 mCells_len _ o (fun j a ha i u hu => ?_) j u hj
      obtain ⟨e1, e2⟩ := hget j a ha
      have h4 := (hA j _ e1).2
      rw [← e2] at h4
      match i, hu with
      | 0, hu => cases hu; exact h4.1
      | 1, hu => cases hu; exact h4.2.1
      | 2, hu => cases hu; exact h4.2.2
/-! ### rows of expressions -/
abbrev ET := Tr.E × Value
theorem eCells_len (x : ET) : (eCells x).length = 6 := rfl
def ReadET (w : World) (x : ET) : Prop := BdE x.1 ∧ SlE w x.2 x.1.args
theorem SlE.one {w : World} {v : Value} {l : List Tr.E} (h : SlE w v l) : v.oneCell' = true := by cases h <;> rfl
theorem eCells_one {w : World} {l : List ET} (h : ∀ x ∈ l, ReadET w x) : ∀ a ∈ l, ∀ u ∈ eCells a, u.oneCell' = true := by
  intro a ha u hu
  obtain ⟨_, h1⟩ := h a ha
  simp only [eCells, List.mem_cons, List.not_mem_nil, or_false] at hu
  rcases hu with rfl | rfl | rfl | rfl | rfl | rfl
  · rfl
  · rfl
  · rfl
  · rfl
  · rfl
  · exact SlE.one h1
theorem slE_own {w : World} {base : Nat} {v : Value} {l : List ET} (h : w.ownsRow base 33 6 v l.length (flatV eCells l)) (hx : ∀ x ∈ l, ReadET w x) : SlE w v (l.map Prod.fst) := by
  rcases own_cells eCells_len h with ⟨rfl, rfl⟩ | ⟨g, cap, rfl, hg, hn, hm, hc⟩
  · exact .nil _ _
  · have hlen : (l.map Prod.fst).length = l.length := List.length_map ..
    have e : (Value.slice (some ⟨g, 0, none⟩) l.length cap) = .slice (some ⟨g, 0, none⟩) (l.map Prod.fst).length cap := by rw [hlen]
    rw [e]
    refine .row g 0 cap _ (fun j => (l[j]?.map Prod.snd).getD (.bool false)) (by rw [hlen]; exact hn) hm (fun j m hj => ?_) (fun j m hj => ?_)
    · rw [List.getElem?_map, Option.map_eq_some_iff] at hj
      obtain ⟨a, ha, rfl⟩ := hj
      have c := hc j a ha
      rw [ha, Nat.zero_add]
      exact ⟨⟨c 0 _ rfl, c 1 _ rfl, c 2 _ rfl, c 3 _ rfl, c 4 _ rfl, c 5 _ rfl⟩, (hx a (List.mem_of_getElem? ha)).1⟩
    · rw [List.getElem?_map, Option.map_eq_some_iff] at hj
      obtain ⟨a, ha, rfl⟩ := hj
      rw [ha]
      exact (hx a (List.mem_of_getElem? ha)).2
theorem SlE.rows {w : World} {v : Value} {es : List Tr.E} (h : SlE w v es) : ∃ l : List ET, l.map Prod.fst = es ∧ (∀ x ∈ l, ReadET w x) ∧ SrcAt w eCells v l := by
  cases h with
  | nil p c => exact ⟨[], rfl, fun x hx => absurd hx (by simp), .inl ⟨rfl, p, c, rfl⟩⟩
  | row b o c l A hn hm hc ha =>
    have hget : ∀ (j : Nat) (x : ET), (es.mapIdx fun j m => ((m, A j) : ET))[j]? = some x → es[j]? = some x.1 ∧ x.2 = A j := by
      intro j x hj
      rw [List.getElem?_mapIdx, Option.map_eq_some_iff] at hj
      obtain ⟨m, hm, rfl⟩ := hj
      exact ⟨hm, rfl⟩
    refine ⟨es.mapIdx fun j m => (m, A j), ?_, fun x hxm => ?_, .inr ⟨b, o, c, by rw [List.length_mapIdx], fun j u hj => ?_⟩⟩
    · apply List.ext_getElem?
      intro j
      rw [List.getElem?_map, List.getElem?_mapIdx, Option.map_map]
      cases es[j]? <;> rfl
    · obtain ⟨j, hj, rfl⟩ := List.getElem_of_mem hxm
      obtain ⟨e1, e2⟩ := hget j _ (List.getElem?_eq_getElem hj)
      refine ⟨(hc j _ e1).2, ?_⟩
      rw [e2]
      exact ha j _ e1
    · refine flatV_cells eCells 6 eCells_len (es.mapIdx fun j m => ((m, A j) : ET)) o (fun j' a hj' i u hu => ?_) j u hj
      obtain ⟨e1, e2⟩ := hget j' a hj'
      obtain ⟨⟨x0, x1, x2, x3, x4, x5⟩, _⟩ := hc j' _ e1
      rw [← e2] at x5
      simp only [eCells] at hu
      match i, hu with
      | 0, hu => cases hu; exact x0
      | 1, hu => cases hu; exact x1
      | 2, hu => cases hu; exact x2
      | 3, hu => cases hu; exact x3
      | 4, hu => cases hu; exact x4
      | 5, hu => cases hu; exact x5
      | i + 6, hu => simp at hu
theorem info_parts {i : Option TypeInfo} {z : Value} {s b : Nat} (h : i.map (fun i => (i.zero, i.size, i.bytes)) = some (some z, s, b)) : ∃ i0, i = some i0 ∧ i0.zero = some z ∧ i0.size = s ∧ i0.bytes = b := by
  cases i with
  | none => cases h
  | some i0 =>
    simp only [Option.map_some, Option.some.injEq, Prod.mk.injEq] at h
    exact ⟨i0, rfl, h.1, h.2.1, h.2.2⟩
theorem classInfo : (Tryz.prog.info? 49).map (fun i => (i.zero, i.size, i.bytes)) = some (some (.agg #[.string ⟨#[]⟩, .bool false, .slice none 0 0, .slice none 0 0]), 4, 72) := by kernel_rfl
theorem exprInfo : (Tryz.prog.info? 33).map (fun i => (i.zero, i.size, i.bytes)) = some (some (.agg #[.int .i64 0, .int .i64 0, .int .i64 0, .string ⟨#[]⟩, .bool false, .slice none 0 0]), 6, 72) := by kernel_rfl
theorem own_form {w : World} {b : Nat} {e : TypeId} {size n : Nat} {v : Value} {xs : List Value} (h : w.ownsRow b e size v n xs) : ∃ p cap, v = .slice p n cap := by
  rcases h.2 with ⟨rfl, rfl⟩ | ⟨g, cap, cur, rfl, _⟩
  · exact ⟨_, _, rfl⟩
  · exact ⟨_, _, rfl⟩
/-! ### rows of statements -/
abbrev ST := Tr.S × Value × Value × Value
def sCells (x : ST) : List Value := [.int .i64 x.1.kind, .string x.1.name, x.2.1, x.2.2.1, x.2.2.2]
theorem sCells_len (x : ST) : (sCells x).length = 5 := rfl
def ReadST (w : World) (x : ST) : Prop := BdS x.1 ∧ SlE w x.2.1 x.1.exprs ∧ SlS w x.2.2.1 x.1.body ∧ SlS w x.2.2.2 x.1.els
theorem sCells_one {w : World} {l : List ST} (h : ∀ x ∈ l, ReadST w x) : ∀ a ∈ l, ∀ u ∈ sCells a, u.oneCell' = true := by
  intro a ha u hu
  obtain ⟨_, h1, h2, h3⟩ := h a ha
  simp only [sCells, List.mem_cons, List.not_mem_nil, or_false] at hu
  rcases hu with rfl | rfl | rfl | rfl | rfl
  · rfl
  · rfl
  · exact SlE.one h1
  · exact SlS.one h2
  · exact SlS.one h3
theorem slS_own {w : World} {base : Nat} {v : Value} {l : List ST} (h : w.ownsRow base 94 5 v l.length (flatV sCells l)) (hx : ∀ x ∈ l, ReadST w x) : SlS w v (l.map Prod.fst) := by
  rcases own_cells sCells_len h with ⟨rfl, rfl⟩ | ⟨g, cap, rfl, hg, hn, hm, hc⟩
  · exact .nil _ _
  · have hlen : (l.map Prod.fst).length = l.length := List.length_map ..
    have e : (Value.slice (some ⟨g, 0, none⟩) l.length cap) = .slice (some ⟨g, 0, none⟩) (l.map Prod.fst).length cap := by rw [hlen]
    rw [e]
    refine .row g 0 cap _ (fun j => (l[j]?.map (·.2.1)).getD (.bool false)) (fun j => (l[j]?.map (·.2.2.1)).getD (.bool false)) (fun j => (l[j]?.map (·.2.2.2)).getD (.bool false)) (by rw [hlen]; exact hn) hm (fun j m hj => ?_) (fun j m hj => ?_) (fun j m hj => ?_) (fun j m hj => ?_)
    all_goals
      rw [List.getElem?_map, Option.map_eq_some_iff] at hj
      obtain ⟨a, ha, rfl⟩ := hj
      rw [ha]
      obtain ⟨r1, r2, r3, r4⟩ := hx a (List.mem_of_getElem? ha)
    · have c := hc j a ha
      rw [Nat.zero_add]
      exact ⟨⟨c 0 _ rfl, c 1 _ rfl, c 2 _ rfl, c 3 _ rfl, c 4 _ rfl⟩, r1⟩
    · exact r2
    · exact r3
    · exact r4
/-! ### rows of names -/
def nCells (x : ByteArray) : List Value := [.string x]
theorem nCells_len (x : ByteArray) : (nCells x).length = 1 := rfl
theorem nCells_one (l : List ByteArray) : ∀ a ∈ l, ∀ u ∈ nCells a, u.oneCell' = true := by
  intro a _ u hu
  obtain rfl := List.mem_singleton.1 hu
  rfl
theorem slStr_own {w : World} {base : Nat} {v : Value} {l : List ByteArray} (h : w.ownsRow base 9 1 v l.length (flatV nCells l)) (hx : ∀ x ∈ l, x.size ≤ maxLen) : SlStr w v l := by
  rcases own_cells nCells_len h with ⟨rfl, rfl⟩ | ⟨g, cap, rfl, hg, hn, hm, hc⟩
  · exact ⟨_, _, rfl, Nat.zero_le _, fun h => absurd rfl h, fun j n hj => by simp at hj⟩
  · refine ⟨some ⟨g, 0, none⟩, cap, rfl, by omega, fun _ => ⟨hn, hm⟩, fun j m hj => ?_⟩
    have c := hc j m hj 0 _ rfl
    rw [Nat.mul_one] at c
    exact ⟨hx m (List.mem_of_getElem? hj), g, 0, rfl, hg, by rw [Nat.zero_add]; exact c⟩
theorem stmtInfo : (Tryz.prog.info? 94).map (fun i => (i.zero, i.size, i.bytes)) = some (some (.agg #[.int .i64 0, .string ⟨#[]⟩, .slice none 0 0, .slice none 0 0, .slice none 0 0]), 5, 96) := by kernel_rfl
theorem methodInfo : (Tryz.prog.info? 64).map (fun i => (i.zero, i.size, i.bytes)) = some (some (.agg #[.string ⟨#[]⟩, .slice none 0 0, .slice none 0 0]), 3, 64) := by kernel_rfl
theorem strInfo : (Tryz.prog.info? 9).map (fun i => (i.zero, i.size, i.bytes)) = some (some (.string ⟨#[]⟩), 1, 16) := by kernel_rfl
theorem slE_blk1 {w : World} {g : Nat} {e : Tr.E} {a : Value} {t : TypeId} (h : w.heap[g]? = some (.cells #[.int .i64 e.kind, .int .i64 e.op, .int .i64 e.int, .string e.name, .bool e.at_, a] t (0, 0))) (hb : BdE e) (hs : SlE w a e.args) : SlE w (.slice (some ⟨g, 0, none⟩) 1 1) [e] :=
  slE_blk h [(e, a)] (by simp) rfl (fun z hz => by
    obtain rfl := List.mem_singleton.1 hz
    exact ⟨hb, hs⟩)
end Pw
end Go.Proofs.YtdckddkalgnlpaaGreatDoor
