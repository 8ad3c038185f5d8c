/-
  Several texts in one: TrFew, TrForm, SyPr, TrProgA, SyWrite, SyExprA, SyList, SyPlain, PaRt, PaRtB, PaRtS, TrHide.
-/
import Derived.Test.YtdckddkalgnlpaaGreatDoorA1
import Derived.Test.YtdckddkalgnlpaaGreatDoorRows
import Derived.WalkKit
import Derived.WalkLawsBesides
import Derived.WalkSpells
import Derived.LoopTactic
import Derived.Lib.Hide
import Derived.Test.YtdckddkalgnlpaaGreatDoorA2
import Derived.Lib.Builder
import Derived.Lib.AppendStr
import Derived.Lib.UnsafeStr
import Derived.Lib.OthersKept
import Derived.Laws.Externs
import Derived.Test.YtdckddkalgnlpaaGreatDoorA5
import Derived.Deep.LoopGhost
import Derived.Lib.LaidTab
import Derived.Shelf.Strconv.Itoa3
import Derived.Shelf.Strings.Builder1
import Derived.Shelf.Strings.Builder2
import Derived.Shelf.Strings.OnBuilder
import Derived.Shelf.Strings.Trim
import Derived.Shelf.Small.Utf8
import Derived.Shelf.Small.Strs
import Derived.Shelf.Strings.BuilderF
import Derived.Shelf.Strconv.Itoa0
import Derived.Shelf.Strconv.Itoa1
import Derived.Shelf.LaysM
import Derived.Shelf.Strconv.Itoa2
import Derived.Shelf.Strconv.Itoa4
import Derived.Shelf.Strconv.ParseIntEmpty
import Derived.Shelf.Strconv.Clone
import Derived.Shelf.Strconv.SyntaxError
import Derived.Shelf.LaysC
import Derived.Shelf.Strconv.ToError
import Derived.Shelf.Strconv.Lower
import Derived.Shelf.Strconv.ParseUint10
import Derived.Shelf.Strconv.ParseUint10Empty
import Derived.Shelf.Strconv.ParseUint10Any
import Derived.Shelf.Strconv.ParseInt10
import Derived.Shelf.Strconv.RangeError
import Derived.Shelf.Strconv.ToErrorRange
import Derived.Shelf.Strconv.ParseUintEmpty
import Derived.Shelf.Strconv.ParseUint10b64
import Derived.Shelf.Strconv.ParseUint10b32
import Derived.Shelf.Strconv.ParseUint10b16
import Derived.Shelf.Strconv.ParseUint10b8
import Derived.Shelf.Strconv.ParseUint10At
import Derived.Shelf.Strconv.ParseInt10At64
import Derived.Shelf.Strconv.ParseInt10At32
import Derived.Shelf.Strconv.ParseInt10At16
import Derived.Shelf.Strconv.ParseInt10At8
import Derived.Shelf.Strconv.ParseInt10All
import Derived.Shelf.Strconv.ParseIntPublic10
import Derived.Shelf.Strconv.ErrVarParseInt
import Derived.Shelf.Strings.Search1
import Derived.Shelf.Strings.Search2
import Derived.Shelf.Strings.Search3
import Derived.Shelf.Strings.Shaped
import Derived.Shelf.Strings.Prefix
import Derived.Shelf.Strings.Runes
import Derived.Shelf.Strings.AsciiSet
import Derived.Shelf.Bits.Mul64
import Derived.Shelf.Strings.Repeat
import Derived.Shelf.Unicode.DecodeSlow
import Derived.Shelf.Slices.Turned
import Derived.Shelf.Slices.Equal
import Derived.Test.YtdckddkalgnlpaaGreatDoorProg
import Derived.Test.YtdckddkalgnlpaaGreatDoorA3
import Derived.Deep.RegionHeld3
import Derived.Deep.DeepCutAuto
import Derived.StillTailTactics
import Derived.Lib.ItoaNum
import Derived.Deep.QuietTactic
import Derived.BigQuiet
import Derived.Test.YtdckddkalgnlpaaGreatDoorA6
import Derived.Laws.AppendOwn
namespace Go.Proofs.YtdckddkalgnlpaaGreatDoor
open Go.RowKit
def exprV (e : Tr.E) (a : Value) : Value := .agg #[.int .i64 e.kind, .int .i64 e.op, .int .i64 e.int, .string e.name, .bool e.at_, a]
theorem box_cell (w : World) (cs : Array Value) (t : TypeId) (i : Nat) (u : Value) (h : cs[i]? = some u) : (w.alloc (.cells cs t)).cell? ⟨w.heap.size, i, none⟩ = some u := by
 unfold World.cell? World.alloc
 simp
 simpa using h
theorem below_box (w : World) (o : Obj) : Below w.heap.size w (w.alloc o) := (Below.refl _ _).alloc (Nat.le_refl _) o
theorem below_next {wb w w' : World} (h : Below wb.heap.size wb w) (h2 : Below w.heap.size w w') : Below wb.heap.size wb w' := h.trans (h2.mono h.size)
namespace Tr
theorem E.deep_pos (e : E) : 1 ≤ e.deep := by cases e; unfold E.deep; omega
end Tr
namespace Tr
theorem S.deep_pos (e : S) : 1 ≤ e.deep := by cases e; unfold S.deep; omega
theorem S.deep_in {l : List S} {d j : Nat} {x : S} (h : S.deep.deeps l ≤ d) (hj : l[j]? = some x) : 1 ≤ d ∧ S.deep.deeps x.body ≤ d - 1 ∧ S.deep.deeps x.els ≤ d - 1 := by
 have h1 := S.deeps_get l j x hj
 have h2 := x.deep_pos
 obtain ⟨m, hm⟩ : ∃ m, d = m + 1 := ⟨d - 1, by omega⟩
 subst hm
 exact ⟨by omega, S.deep_body (by omega), S.deep_els (by omega)⟩
end Tr
end Go.Proofs.YtdckddkalgnlpaaGreatDoor
namespace Go.Proofs.YtdckddkalgnlpaaGreatDoor
open Go.RowKit
theorem okE_0 (i : Int) (nm : ByteArray) (n : Nat) : Tr.okE 0 0 i nm false n = decide (n = 0 ∧ nm.size = 0 ∧ 0 ≤ i ∧ i ≤ 2305843009213693951) := by
 unfold Tr.okE
 rw [if_pos rfl, Bool.and_false, decide_eq_false (fun h => h.1 rfl), decide_eq_false (fun h => h.2 rfl)]
 rfl
theorem okE_10 (o : Int) (nm : ByteArray) (n : Nat) : Tr.okE 10 o 0 nm false n = decide (n = 2 ∧ nm.size = 0 ∧ 0 ≤ o ∧ o ≤ 12) := by
 unfold Tr.okE
 rw [Bool.and_false, decide_eq_false (p := (10 : Int) ≠ 0 ∧ (0 : Int) ≠ 0) (fun h => h.2 rfl), decide_eq_false (p := (10 : Int) ≠ 10 ∧ o ≠ 0) (fun h => h.1 rfl)]
 rfl
def stmtV (s : Tr.S) (x y z : Value) : Value := .agg #[.int .i64 s.kind, .string s.name, x, y, z]
theorem SlStr.form {w : World} {v : Value} {l : List ByteArray} (h : SlStr w v l) : ∃ p c, v = .slice p l.length c := by
 obtain ⟨p, c, e, _⟩ := h; exact ⟨p, c, e⟩
theorem SlM.form {w : World} {v : Value} {l : List Tr.M} (h : SlM w v l) : ∃ p c, v = .slice p l.length c := by
 obtain ⟨p, c, e, _⟩ := h; exact ⟨p, c, e⟩
theorem SlM.len {w : World} {v : Value} {l : List Tr.M} (h : SlM w v l) : l.length ≤ maxLen := by
 obtain ⟨p, c, e, h1, _⟩ := h; exact h1
theorem SlM.get {w : World} {p : Option Addr} {n c : Nat} {l : List Tr.M} (h : SlM w (.slice p n c) l) {j : Nat} {m : Tr.M} (hj : l[j]? = some m) :
 ∃ b o x y, p = some ⟨b, o, none⟩ ∧ b < w.heap.size ∧ CellsM w b (o + j * 3) m x y ∧ m.name.size ≤ maxLen ∧ SlStr w x m.params ∧ SlS w y m.body := by
 obtain ⟨p', c', e, _, _, hx⟩ := h
 cases e
 obtain ⟨h1, b, o, x, y, h2, h3, h4, h5, h6⟩ := hx j m hj
 exact ⟨b, o, x, y, h2, h3, h4, h1, h5, h6⟩
theorem SlC.form {w : World} {v : Value} {l : List Tr.C} (h : SlC w v l) : ∃ p c, v = .slice p l.length c := by
 obtain ⟨p, c, e, _⟩ := h; exact ⟨p, c, e⟩
theorem SlC.len {w : World} {v : Value} {l : List Tr.C} (h : SlC w v l) : l.length ≤ maxLen := by
 obtain ⟨p, c, e, h1, _⟩ := h; exact h1
theorem SlC.get {w : World} {p : Option Addr} {n c : Nat} {l : List Tr.C} (h : SlC w (.slice p n c) l) {j : Nat} {m : Tr.C} (hj : l[j]? = some m) :
 ∃ b o x y, p = some ⟨b, o, none⟩ ∧ b < w.heap.size ∧ CellsC w b (o + j * 4) m x y ∧ m.name.size ≤ maxLen ∧ SlStr w x m.fields ∧ SlM w y m.methods := by
 obtain ⟨p', c', e, _, _, hx⟩ := h
 cases e
 obtain ⟨h1, b, o, x, y, h2, h3, h4, h5, h6⟩ := hx j m hj
 exact ⟨b, o, x, y, h2, h3, h4, h1, h5, h6⟩
end Go.Proofs.YtdckddkalgnlpaaGreatDoor
namespace Go.Proofs.YtdckddkalgnlpaaGreatDoor
open Go.RowKit
theorem cell_of_blkP {w : World} {g : Nat} {cur : Array Value} {t : TypeId} {r : Nat × Nat} (h : w.heap[g]? = some (.cells cur t r)) {j : Nat} {u : Value} (hu : cur[j]? = some u) : w.cell? ⟨g, j, none⟩ = some u := by simp [World.cell?, h, hu]
structure PrAt (B b : Nat) (p : Value) (l : List UInt8) (deep : Int) (w : World) : Prop where
 hB : B ≤ b
 ex : ∃ v, w.heap[b]? = some (.cells #[p, v, .int .i64 deep] 87 (0, 0)) ∧ w.ownsRow B 5 1 v l.length (Lib.byteCells l) ∧ (l = [] → v = .slice none 0 0)
def PrSt (B b : Nat) (l : List UInt8) (deep : Int) (w : World) : Prop := PrAt B b (.pointer none) l deep w ∨ PrAt B b (.pointer (some ⟨b, 0, none⟩)) l deep w
structure Pk (B b : Nat) (w w' : World) : Prop where
 below : Below B w w'
 others : Lib.OthersKept 5 (some b) w w'
theorem Pk.refl (B b : Nat) (w : World) : Pk B b w w := ⟨Below.refl _ _, Lib.OthersKept.refl _ _ _⟩
theorem Pk.trans {B b : Nat} {u v w : World} (h : Pk B b u v) (k : Pk B b v w) : Pk B b u w := ⟨h.below.trans k.below, h.others.trans k.others⟩
theorem Pk.alloc {B b : Nat} {u v : World} (h : Pk B b u v) (hB : B ≤ v.heap.size) (o : Obj) : Pk B b u (v.alloc o) := ⟨h.below.alloc hB o, h.others.alloc o⟩
theorem Pk.set {B b : Nat} {u v : World} (h : Pk B b u v) (hB : B ≤ b) (i : Nat) (x : Value) : Pk B b u (v.setCell ⟨b, i, none⟩ x) := ⟨h.below.setCell (p := ⟨b, i, none⟩) hB x, h.others.setCell ⟨b, i, none⟩ rfl x⟩
section
variable {B b : Nat} {p : Value} {l : List UInt8} {deep : Int} {w w' : World}
theorem PrAt.lt (h : PrAt B b p l deep w) : b < w.heap.size := by
 obtain ⟨v, hb, _⟩ := h.ex
 exact (Array.getElem?_eq_some_iff.1 hb).1
theorem PrSt.lt (h : PrSt B b l deep w) : b < w.heap.size := h.elim (·.lt) (·.lt)
theorem PrSt.hB (h : PrSt B b l deep w) : B ≤ b := h.elim (·.hB) (·.hB)
theorem PrAt.next (h : PrAt B b p l deep w) (hb : Below w.heap.size w w') : PrAt B b p l deep w' := by
 obtain ⟨v, hc, ho, hn⟩ := h.ex
 exact ⟨h.hB, v, (hb.block b h.lt).trans hc, own_below ho hb, hn⟩
theorem PrSt.next (h : PrSt B b l deep w) (hb : Below w.heap.size w w') : PrSt B b l deep w' := h.imp (·.next hb) (·.next hb)
end
end Go.Proofs.YtdckddkalgnlpaaGreatDoor
namespace Go.Proofs.YtdckddkalgnlpaaGreatDoor
open Go.RowKit
theorem SlStr.len {w : World} {v : Value} {l : List ByteArray} (h : SlStr w v l) : l.length ≤ maxLen := by
 obtain ⟨p, c, e, h1, _⟩ := h; exact h1
end Go.Proofs.YtdckddkalgnlpaaGreatDoor
namespace Go.Proofs.YtdckddkalgnlpaaGreatDoor
open Go.RowKit
structure PrEnv (w : World) : Prop where
 ops : ∀ o : Nat, o ≤ 12 → w.cell? ⟨2, o * 2, none⟩ = some (.string ⟨(Sy.sym o).toArray⟩) ∧ w.cell? ⟨2, o * 2 + 1, none⟩ = some (.int .i64 (Sy.opLevel o : Nat))
 tab : Lib.TabIs Tryz.prog w "internal/strconv.uint64pow10" .u64 Lib.pow10Tab
theorem PrEnv.lt {w : World} (h : PrEnv w) : 2 < w.heap.size := cell_lt' (h.ops 0 (by omega)).1
structure PrIn (w0 : World) (B b : Nat) (l : List UInt8) (deep : Int) (w : World) : Prop where
 st : PrSt B b l deep w
 base : Below w0.heap.size w0 w
 le : w0.heap.size ≤ B
 leB : B ≤ w.heap.size
def PrPost (B b : Nat) (l t : List UInt8) (deep : Int) (w : World) (e : Ending) (w' : World) : Prop :=
 e = .returned (.tuple #[]) ∧ PrSt B b (l ++ t) deep w' ∧ Pk B b w w'
section
variable {w0 : World} {B b : Nat} {l : List UInt8} {deep : Int} {w w' : World}
theorem PrIn.next (h : PrIn w0 B b l deep w) {l' : List UInt8} (hs : PrSt B b l' deep w') (hk : Pk B b w w') : PrIn w0 B b l' deep w' :=
 ⟨hs, h.base.trans (hk.below.mono h.le), h.le, Nat.le_trans h.leB hk.below.size⟩
theorem PrIn.lt (h : PrIn w0 B b l deep w) : b < w.heap.size := h.st.lt
theorem PrIn.ne (h : PrIn w0 B b l deep w) : w.heap.size ≠ b := by have := h.lt; omega
theorem PrIn.pk (h : PrIn w0 B b l deep w) (o : Obj) : Pk B b w (w.alloc o) := (Pk.refl B b w).alloc h.leB o
theorem PrPost.of (h : Pk B b w w') {l1 l2 t : List UInt8} {e : Ending} {W : World} (hp : PrPost B b l1 l2 deep w' e W) (ht : l1 ++ l2 = l ++ t) : PrPost B b l t deep w e W :=
 ⟨hp.1, ht ▸ hp.2.1, h.trans hp.2.2⟩
end
end Go.Proofs.YtdckddkalgnlpaaGreatDoor
namespace Go.Proofs.YtdckddkalgnlpaaGreatDoor
open Go.RowKit
theorem Pk.of_below {B b : Nat} {w w' : World} (h : Below w.heap.size w w') (hB : B ≤ w.heap.size) : Pk B b w w' :=
 ⟨h.mono hB, fun k _ hk _ _ => (h.block k (Array.getElem?_eq_some_iff.1 hk).1).trans hk⟩
theorem PrIn.below {w0 : World} {B b : Nat} {l : List UInt8} {deep : Int} {w w' : World} (h : PrIn w0 B b l deep w) (hb : Below w.heap.size w w') : PrIn w0 B b l deep w' :=
 h.next (h.st.next hb) (Pk.of_below hb h.leB)
end Go.Proofs.YtdckddkalgnlpaaGreatDoor
namespace Go.Proofs.YtdckddkalgnlpaaGreatDoor
open Go.RowKit
namespace Sy
theorem level_pos (e : Tr.E) : 1 ≤ level e := by
 obtain ⟨k, o, i, nm, a, l⟩ := e
 show 1 ≤ levelK k o a
 unfold levelK opLevel
 repeat' split
 all_goals omega
end Sy
end Go.Proofs.YtdckddkalgnlpaaGreatDoor
namespace Go.Proofs.YtdckddkalgnlpaaGreatDoor
open Go.RowKit
theorem tab_keep {w w' : World} (ht : Lib.TabIs Tryz.prog w "internal/strconv.uint64pow10" .u64 Lib.pow10Tab) (hb : Below w.heap.size w w') : Lib.TabIs Tryz.prog w' "internal/strconv.uint64pow10" .u64 Lib.pow10Tab := by
 have hgn : Tryz.prog.globalNamed "internal/strconv.uint64pow10" = some 9 := by kernel_rfl
 unfold Lib.TabIs World.var? at ht ⊢
 rw [hgn] at ht ⊢
 simp only [Option.bind_some] at ht ⊢
 have hlt : 9 < w.heap.size := by
  rcases Nat.lt_or_ge 9 w.heap.size with h' | h'
  ·exact h'
  ·rw [Array.getElem?_eq_none h'] at ht
   simp at ht
 rw [hb.block _ hlt]
 exact ht
end Go.Proofs.YtdckddkalgnlpaaGreatDoor
namespace Go.Proofs.YtdckddkalgnlpaaGreatDoor
namespace Pa
open Tr
def kw (t : Bytes) : B := ⟨4, t, 0⟩
def sy (t : Bytes) : B := ⟨5, t, 0⟩
def nmT (t : Bytes) : B := ⟨2, t, 0⟩
def clT (t : Bytes) : B := ⟨3, t, 0⟩
def opT (o : Int) : B := if o = 11 ∨ o = 12 then kw (Sy.sym o) else sy (Sy.sym o)
def parT (req : Nat) (x : Nat × Toks) : Toks := if x.1 < req then sy [40] :: (x.2 ++ [sy [41]]) else x.2
def commasT : List Toks → Toks
 | [] => []
 | [x] => x
 | x :: y :: r => x ++ sy [44] :: commasT (y :: r)
def nodeT (k o i : Int) (nm : Bytes) (a : Bool) (ts : List (Nat × Toks)) : Toks :=
 if k = 0 then [⟨1, dec i.toNat, i.toNat⟩]
 else if k = 1 then [kw [110, 105, 108]]
 else if k = 2 then [kw [116, 104, 105, 115]]
 else if k = 3 then [nmT nm]
 else if k = 4 then parT 8 (ts.headD (9, [])) ++ [sy [46], nmT nm]
 else if k = 5 then
  if a then kw [110, 101, 119] :: clT nm :: sy [40] :: (commasT (ts.dropLast.map Prod.snd) ++ sy [41] :: kw [97, 116] :: parT 7 (ts.getLastD (9, [])))
  else kw [110, 101, 119] :: clT nm :: sy [40] :: (commasT (ts.map Prod.snd) ++ [sy [41]])
 else if k = 6 then kw [119, 101, 97, 107] :: parT 7 (ts.headD (9, []))
 else if k = 7 then kw [103, 101, 116] :: parT 7 (ts.headD (9, []))
 else if k = 8 then sy [45] :: parT 7 (ts.headD (9, []))
 else if k = 9 then kw [110, 111, 116] :: parT 3 (ts.headD (9, []))
 else parT (if Sy.opLevel o = 4 then 5 else Sy.opLevel o) (ts.headD (9, [])) ++ opT o :: parT (Sy.opLevel o + 1) ((ts.drop 1).headD (9, []))
mutual
def toks : E → Toks
 | .mk k o i nm a l => nodeT k o i nm.data.toList a (tokss l)
def tokss : List E → List (Nat × Toks)
 | [] => []
 | e :: r => (Sy.level e, toks e) :: tokss r
end
section
variable {α β : Type}
def Ok (p : Nat → R α) (a : α) (r : Toks) : Prop := ∃ F, ∀ f, F ≤ f → p f = .ok a r
def Reach (p q : Nat → R α) : Prop := ∃ F D, ∀ f, F ≤ f → ∃ g, f ≤ g + D ∧ p f = q g
theorem Ok.step {P body : Nat → R α} {a : α} {r : Toks} (h : ∀ f, P (f + 1) = body f) (hb : Ok body a r) : Ok P a r := by
 obtain ⟨F, hb⟩ := hb
 refine ⟨F + 1, fun f hf => ?_⟩
 obtain ⟨g, rfl⟩ : ∃ g, f = g + 1 := ⟨f - 1, by omega⟩
 rw [h, hb g (by omega)]
theorem Reach.ok {p q : Nat → R α} {a : α} {r : Toks} (h : Reach p q) (h2 : Ok q a r) : Ok p a r := by
 obtain ⟨F, D, h⟩ := h
 obtain ⟨G, h2⟩ := h2
 refine ⟨F + G + D, fun f hf => ?_⟩
 obtain ⟨g, hg, e⟩ := h f (by omega)
 rw [e, h2 g (by omega)]
theorem Reach.step {P q : Nat → R α} (h : ∀ f, P (f + 1) = q f) : Reach P q := ⟨1, 1, fun f hf => ⟨f - 1, by omega, by
 obtain ⟨g, rfl⟩ : ∃ g, f = g + 1 := ⟨f - 1, by omega⟩
 rw [h]; rfl⟩⟩
end
theorem is_cons (t : Bytes) (x : B) (r : Toks) : is t (x :: r) = (x.text == t && (x.kind == 4 || x.kind == 5)) := rfl
theorem is_app {t : Bytes} {a : Toks} (b : Toks) (h : a ≠ []) : is t (a ++ b) = is t a := by
 cases a with
 | nil => exact absurd rfl h
 | cons x r => rfl
def Stop (lv : Nat) (r : Toks) : Prop := is [46] r = false ∧ is [97, 116] r = false ∧ ∀ o : Int, 0 ≤ o → o ≤ 12 → lv + 1 ≤ Sy.opLevel o → is (Sy.sym o) r = false
theorem Stop.mono {a b : Nat} {r : Toks} (h : Stop a r) (hab : a ≤ b) : Stop b r := ⟨h.1, h.2.1, fun o h0 h1 h2 => h.2.2 o h0 h1 (by omega)⟩
theorem pE_0 (f : Nat) (ts : Toks) : pE (f + 1) 0 ts = (pE f 1 ts).bind fun a r => pL f 1 [12] a r := by rw [pE]; rfl
theorem pE_1 (f : Nat) (ts : Toks) : pE (f + 1) 1 ts = (pE f 2 ts).bind fun a r => pL f 2 [11] a r := by rw [pE]; rfl
theorem pE_2 (f : Nat) (ts : Toks) : pE (f + 1) 2 ts = if is [110, 111, 116] ts then (pE f 2 ts.tail).bind fun a r => .ok (un 9 a) r else pE f 3 ts := by rw [pE]; rfl
theorem pE_3 (f : Nat) (ts : Toks) : pE (f + 1) 3 ts = (pE f 4 ts).bind fun a r => match opOf [5, 6, 7, 8, 9, 10] r with | some o => (pE f 4 r.tail).bind fun b r => .ok (bin o a b) r | none => .ok a r := by rw [pE]; rfl
theorem pE_4 (f : Nat) (ts : Toks) : pE (f + 1) 4 ts = (pE f 5 ts).bind fun a r => pL f 5 [0, 1] a r := by rw [pE]; rfl
theorem pE_5 (f : Nat) (ts : Toks) : pE (f + 1) 5 ts = (pE f 6 ts).bind fun a r => pL f 6 [2, 3, 4] a r := by rw [pE]; rfl
theorem pE_6 (f : Nat) (ts : Toks) : pE (f + 1) 6 ts = if is [45] ts then (pE f 6 ts.tail).bind fun a r => .ok (un 8 a) r else if is [119, 101, 97, 107] ts then (pE f 6 ts.tail).bind fun a r => .ok (un 6 a) r else if is [103, 101, 116] ts then (pE f 6 ts.tail).bind fun a r => .ok (un 7 a) r else pE f 7 ts := by rw [pE]; rfl
theorem pE_7 (f : Nat) (ts : Toks) : pE (f + 1) 7 ts = (pO f ts).bind fun a r => pF f a r := by rw [pE]; rfl
theorem pL_s (f lv : Nat) (ops : List Int) (a : E) (ts : Toks) : pL (f + 1) lv ops a ts = match opOf ops ts with | some o => (pE f lv ts.tail).bind fun b r => pL f lv ops (bin o a b) r | none => .ok a ts := by rw [pL]; cases opOf ops ts <;> rfl
theorem pF_s (f : Nat) (a : E) (ts : Toks) : pF (f + 1) a ts = if is [46] ts then (word 2 ts.tail).bind fun n r => pF f (fld n a) r else .ok a ts := by rw [pF]
end Pa
end Go.Proofs.YtdckddkalgnlpaaGreatDoor
namespace Go.Proofs.YtdckddkalgnlpaaGreatDoor
namespace Pa
open Tr
def LOps (L : Nat) (ops : List Int) : Prop := (L = 1 ∧ ops = [12]) ∨ (L = 2 ∧ ops = [11]) ∨ (L = 5 ∧ ops = [0, 1]) ∨ (L = 6 ∧ ops = [2, 3, 4])
structure RtE (e : E) : Prop where
 pe : ∀ lv rest, lv ≤ 7 → lv + 1 ≤ Sy.level e → Stop lv rest → Ok (fun f => pE f lv (toks e ++ rest)) e rest
 pl : ∀ L ops rest, LOps L ops → L ≤ Sy.level e → Stop L rest → Reach (fun f => pE f (L - 1) (toks e ++ rest)) (fun g => pL g L ops e rest)
 pf : ∀ rest, 8 ≤ Sy.level e → is [97, 116] rest = false → Reach (fun f => pE f 7 (toks e ++ rest)) (fun g => pF g e rest)
 po : ∀ rest, Sy.level e = 9 → is [97, 116] rest = false → Ok (fun f => pO f (toks e ++ rest)) e rest
 ne : toks e ≠ []
 no : 4 ≤ Sy.level e → is [110, 111, 116] (toks e) = false
 cl : is [41] (toks e) = false
 pre : 8 ≤ Sy.level e → is [45] (toks e) = false ∧ is [119, 101, 97, 107] (toks e) = false ∧ is [103, 101, 116] (toks e) = false
theorem LOps.le {L : Nat} {ops : List Int} (h : LOps L ops) : 1 ≤ L ∧ L ≤ 6 ∧ L ≠ 3 ∧ L ≠ 4 := by
 rcases h with ⟨rfl, _⟩ | ⟨rfl, _⟩ | ⟨rfl, _⟩ | ⟨rfl, _⟩ <;> omega
theorem pO_s (f : Nat) (x : B) (r : Toks) : pO (f + 1) (x :: r) = if x.kind = 1 then .ok (num x.val) r
 else if x.kind = 2 then .ok (var ⟨x.text.toArray⟩) r
 else if is [110, 105, 108] (x :: r) then .ok (leaf 1) r
 else if is [116, 104, 105, 115] (x :: r) then .ok (leaf 2) r
 else if is [40] (x :: r) then (pE f 0 r).bind fun a r => (expect [41] r).bind fun _ r => .ok a r
 else if is [110, 101, 119] (x :: r) then
  (word 3 r).bind fun n r => (pA f r).bind fun l r =>
   if is [97, 116] r then (pE f 6 r.tail).bind fun b r => .ok (new n true (l ++ [b])) r else .ok (new n false l) r
 else .bad (x :: r) := by rw [pO]
theorem level_pos (e : E) : 1 ≤ Sy.level e := by
 obtain ⟨k, o, i, nm, a, l⟩ := e
 unfold Sy.level Sy.levelK Sy.opLevel
 repeat' split
 all_goals omega
theorem pM_s (f : Nat) (l : List E) (ts : Toks) : pM (f + 1) l ts = if is [44] ts then (pE f 0 ts.tail).bind fun a r => pM f (l ++ [a]) r else (expect [41] ts).bind fun _ r => .ok l r := by rw [pM]
theorem pA_s (f : Nat) (ts : Toks) : pA (f + 1) ts = (expect [40] ts).bind fun _ r => if is [41] r then .ok [] r.tail else (pE f 0 r).bind fun a r => pM f [a] r := by rw [pA]
end Pa
end Go.Proofs.YtdckddkalgnlpaaGreatDoor
namespace Go.Proofs.YtdckddkalgnlpaaGreatDoor
namespace Pa
open Tr
def First (ts : Toks) : Prop := ∃ x r, ts = x :: r ∧ (x.kind = 2 → r = []) ∧ (x.kind = 1 ∨ x.kind = 2 ∨ x.text = [110, 105, 108] ∨ x.text = [116, 104, 105, 115] ∨ x.text = [110, 101, 119] ∨ x.text = [40])
theorem First.is {ts : Toks} (h : First ts) (t : Bytes) (ht : t ∉ [[110, 105, 108], [116, 104, 105, 115], [110, 101, 119], [40]]) (rest : Toks) : is t (ts ++ rest) = false := by
 obtain ⟨x, r, rfl, _, h⟩ := h
 rw [List.cons_append, is_cons]
 rcases h with h | h | h | h | h | h
 ·rw [h]; simp
 ·rw [h]; simp
 all_goals
  rw [h, Bool.and_eq_false_iff]
  refine .inl (beq_eq_false_iff_ne.2 fun hc => ht ?_)
  rw [← hc]
  simp
theorem pS_s (f : Nat) (ts : Toks) : pS (f + 1) ts =
 if is [105, 102] ts then (pE f 0 ts.tail).bind fun e r => (pB f r).bind fun b r =>
  if is [101, 108, 115, 101] r then (pB f r.tail).bind fun l r => .ok (.mk 3 ⟨#[]⟩ [e] b l) r else .ok (.mk 3 ⟨#[]⟩ [e] b []) r
 else if is [119, 104, 105, 108, 101] ts then (pE f 0 ts.tail).bind fun e r => (pB f r).bind fun b r => .ok (.mk 4 ⟨#[]⟩ [e] b []) r
 else (pSimple f ts).bind fun s r => (expect [59] r).bind fun _ r => .ok s r := by rw [pS]
theorem pB_s (f : Nat) (ts : Toks) : pB (f + 1) ts = (expect [123] ts).bind fun _ r => pSs f [] r := by rw [pB]
theorem pSs_s (f : Nat) (l : List S) (ts : Toks) : pSs (f + 1) l ts = if is [125] ts then .ok l ts.tail else (pS f ts).bind fun s r => pSs f (l ++ [s]) r := by rw [pSs]
theorem pSend_s (f : Nat) (a : E) (n : ByteArray) (ts : Toks) : pSend (f + 1) a n ts = if is [46] ts then (word 2 ts.tail).bind fun m r => pSend f (fld n a) m r else (pA f ts).bind fun l r => .ok (.mk 5 n (a :: l) [] []) r := by rw [pSend]
theorem whole {e : E} (h : RtE e) {rest : Toks} (hs : Stop 0 rest) : Ok (fun f => pE f 0 (toks e ++ rest)) e rest := h.pe 0 rest (by omega) (level_pos e) hs
theorem pFields_s (f : Nat) (l : List ByteArray) (ts : Toks) : pFields (f + 1) l ts = if is [118, 97, 114] ts then (word 2 ts.tail).bind fun n r => (expect [59] r).bind fun _ r => pFields f (l ++ [n]) r else .ok l ts := by rw [pFields]
theorem pParam_s (f : Nat) (l : List ByteArray) (ts : Toks) : pParam (f + 1) l ts = if is [44] ts then (word 2 ts.tail).bind fun n r => pParam f (l ++ [n]) r else (expect [41] ts).bind fun _ r => .ok l r := by rw [pParam]
theorem pMs_s (f : Nat) (l : List M) (ts : Toks) : pMs (f + 1) l ts = if is [111, 110] ts then (word 2 ts.tail).bind fun n r => (pParams f r).bind fun p r => (pB f r).bind fun b r => pMs f (l ++ [⟨n, p, b⟩]) r else .ok l ts := by rw [pMs]
theorem pP_s (f : Nat) (l : List C) (ts : Toks) : pP (f + 1) l ts = if (ts.headD default).kind = 0 then .ok l ts else (pC f ts).bind fun c r => pP f (l ++ [c]) r := by rw [pP]
end Pa
end Go.Proofs.YtdckddkalgnlpaaGreatDoor
namespace Go.Proofs.YtdckddkalgnlpaaGreatDoor
open Go.RowKit
def Inc (w w' : World) : Prop := w.heap.size ≤ w'.heap.size ∧ ∀ b o v, w.cell? ⟨b, o, none⟩ = some v → w'.cell? ⟨b, o, none⟩ = some v
theorem Inc.refl (w : World) : Inc w w := ⟨Nat.le_refl _, fun _ _ _ h => h⟩
theorem Inc.trans {a b c : World} (h : Inc a b) (h2 : Inc b c) : Inc a c := ⟨Nat.le_trans h.1 h2.1, fun b o v hv => h2.2 b o v (h.2 b o v hv)⟩
theorem CellsE.inc {w w' : World} {b o : Nat} {e : Tr.E} {a : Value} (h : CellsE w b o e a) (hb : Inc w w') : CellsE w' b o e a :=
 ⟨hb.2 _ _ _ h.1, hb.2 _ _ _ h.2.1, hb.2 _ _ _ h.2.2.1, hb.2 _ _ _ h.2.2.2.1, hb.2 _ _ _ h.2.2.2.2.1, hb.2 _ _ _ h.2.2.2.2.2⟩
theorem CellsS.inc {w w' : World} {b o : Nat} {e : Tr.S} {x y z : Value} (h : CellsS w b o e x y z) (hb : Inc w w') : CellsS w' b o e x y z :=
 ⟨hb.2 _ _ _ h.1, hb.2 _ _ _ h.2.1, hb.2 _ _ _ h.2.2.1, hb.2 _ _ _ h.2.2.2.1, hb.2 _ _ _ h.2.2.2.2⟩
theorem SlE.inc {w w' : World} {v : Value} {l : List Tr.E} (h : SlE w v l) (hb : Inc w w') : SlE w' v l := by
 induction h with
 | nil p c => exact .nil p c
 | row b o c l A hn hm hc ha ih => exact .row b o c l A hn hm (fun j e hj => ⟨(hc j e hj).1.inc hb, (hc j e hj).2⟩) (fun j e hj => ih j e hj)
theorem SlS.inc {w w' : World} {v : Value} {l : List Tr.S} (h : SlS w v l) (hb : Inc w w') : SlS w' v l := by
 induction h with
 | nil p c => exact .nil p c
 | row b o c l X Y Z hn hm hc hx hy hz ih1 ih2 => exact .row b o c l X Y Z hn hm (fun j e hj => ⟨(hc j e hj).1.inc hb, (hc j e hj).2⟩) (fun j e hj => (hx j e hj).inc hb) (fun j e hj => ih1 j e hj) (fun j e hj => ih2 j e hj)
theorem SlStr.inc {w w' : World} {v : Value} {l : List ByteArray} (h : SlStr w v l) (hb : Inc w w') : SlStr w' v l := by
 obtain ⟨p, c, e, hl, hn, hx⟩ := h
 refine ⟨p, c, e, hl, hn, fun j s hj => ?_⟩
 obtain ⟨hs, b, o, e2, h1, h2⟩ := hx j s hj
 exact ⟨hs, b, o, e2, Nat.lt_of_lt_of_le h1 hb.1, hb.2 _ _ _ h2⟩
theorem SlM.inc {w w' : World} {v : Value} {l : List Tr.M} (h : SlM w v l) (hb : Inc w w') : SlM w' v l := by
 obtain ⟨p, c, e, hl, hn, hx⟩ := h
 refine ⟨p, c, e, hl, hn, fun j s hj => ?_⟩
 obtain ⟨hs, b, o, x, y, e2, h1, h2, h3, h4⟩ := hx j s hj
 exact ⟨hs, b, o, x, y, e2, Nat.lt_of_lt_of_le h1 hb.1, ⟨hb.2 _ _ _ h2.1, hb.2 _ _ _ h2.2.1, hb.2 _ _ _ h2.2.2⟩, h3.inc hb, h4.inc hb⟩
theorem SlC.inc {w w' : World} {v : Value} {l : List Tr.C} (h : SlC w v l) (hb : Inc w w') : SlC w' v l := by
 obtain ⟨p, c, e, hl, hn, hx⟩ := h
 refine ⟨p, c, e, hl, hn, fun j s hj => ?_⟩
 obtain ⟨hs, b, o, x, y, e2, h1, h2, h3, h4⟩ := hx j s hj
 exact ⟨hs, b, o, x, y, e2, Nat.lt_of_lt_of_le h1 hb.1, ⟨hb.2 _ _ _ h2.1, hb.2 _ _ _ h2.2.1, hb.2 _ _ _ h2.2.2.1, hb.2 _ _ _ h2.2.2.2⟩, h3.inc hb, h4.inc hb⟩
def hide (S : Nat → Bool) (w : World) : World := { w with heap := w.heap.mapIdx fun i o => if S i then .cells #[] 0 (0, 0) else o }
theorem hide_size (S : Nat → Bool) (w : World) : (hide S w).heap.size = w.heap.size := by simp [hide]
theorem hide_heap {S : Nat → Bool} {w : World} {k : Nat} (h : S k = false) : (hide S w).heap[k]? = w.heap[k]? := by
 unfold hide
 rw [Array.getElem?_mapIdx, h]
 cases w.heap[k]? <;> rfl
theorem hide_cell? {S : Nat → Bool} {w : World} {b o : Nat} (h : S b = false) : (hide S w).cell? ⟨b, o, none⟩ = w.cell? ⟨b, o, none⟩ := by
 unfold World.cell?
 rw [hide_heap h]
theorem hide_cell {S : Nat → Bool} {w : World} {b o : Nat} {v : Value} (h : (hide S w).cell? ⟨b, o, none⟩ = some v) : S b = false ∧ w.cell? ⟨b, o, none⟩ = some v := by
 cases hs : S b with
 | false => rw [hide_cell? hs] at h; exact ⟨rfl, h⟩
 | true =>
   exfalso
   unfold World.cell? at h
   have : (hide S w).heap[b]? = (w.heap[b]?).map fun _ => .cells #[] 0 (0, 0) := by
    unfold hide
    rw [Array.getElem?_mapIdx, hs]
    cases w.heap[b]? <;> rfl
   simp only [this] at h
   cases hb : w.heap[b]? with
   | none => rw [hb] at h; simp at h
   | some o => rw [hb] at h; simp at h
theorem hide_inc (S : Nat → Bool) (w : World) : Inc (hide S w) w := ⟨by rw [hide_size]; exact Nat.le_refl _, fun _ _ _ h => (hide_cell h).2⟩
theorem hide_step {S S' : Nat → Bool} {w w' : World} {row : Option Nat} (hg : w.grownBy w' row) (h1 : ∀ k, row = some k → S k = true) (h2 : ∀ k, k < w.heap.size → S' k = true → S k = true) : Inc (hide S w) (hide S' w') := by
 refine ⟨by rw [hide_size, hide_size]; exact hg.size, fun b o v h => ?_⟩
 obtain ⟨hs, hc⟩ := hide_cell h
 have hlt := cell_lt' hc
 have hs' : S' b = false := by
  cases hb : S' b with
  | false => rfl
  | true => rw [h2 b hlt hb] at hs; cases hs
 rw [hide_cell? hs']
 have hb := hg.block b hlt (fun e => by rw [h1 b e.symm] at hs; cases hs)
 unfold World.cell? at hc ⊢
 rw [hb]
 exact hc
theorem hide_own {S : Nat → Bool} {w : World} {base : Nat} {e : TypeId} {size n : Nat} {v : Value} {xs : List Value} (h : w.ownsRow base e size v n xs) (hs : ∀ k, v.ownBlock = some k → S k = false) : (hide S w).ownsRow base e size v n xs := by
 refine ⟨h.1, ?_⟩
 rcases h.2 with hn | ⟨g, cap, cur, rfl, hb, hg, rest⟩
 ·exact .inl hn
 ·exact .inr ⟨g, cap, cur, rfl, hb, by rw [hide_heap (hs g rfl)]; exact hg, rest⟩
end Go.Proofs.YtdckddkalgnlpaaGreatDoor
