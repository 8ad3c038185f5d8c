/-
  Several texts in one: SySpec, SyPr, SyWrite.
-/
import Derived.Test.YtlgfickhkejdjaaGreatDoorMTrA
import Derived.Test.YtlgfickhkejdjaaGreatDoorMLexC
import Derived.Test.YtlgfickhkejdjaaGreatDoorMLexA
import Derived.Lib.Hide
import Derived.Lib.Builder
import Derived.Lib.AppendStr
import Derived.Lib.UnsafeStr
import Derived.Lib.OthersKept
import Derived.Laws.Externs
import Derived.Test.YtlgfickhkejdjaaGreatDoorMTrProgA
import Derived.Deep.LoopGhost
import Derived.Lib.LaidTab
import Derived.Shelf.Strconv.Itoa3
namespace Go.Proofs.YtlgfickhkejdjaaGreatDoor
namespace Sy
open Tr
abbrev Bytes := List UInt8

/-- the level of a binary operator -/
def opLevel (o : Int) : Nat := if o = 12 then 1 else if o = 11 then 2 else if o = 0 ∨ o = 1 then 5 else if o = 2 ∨ o = 3 ∨ o = 4 then 6 else 4
/-- the text of a binary operator -/
def sym (o : Int) : Bytes :=
  if o = 0 then [43] else if o = 1 then [45] else if o = 2 then [42] else if o = 3 then [47] else if o = 4 then [37]
  else if o = 5 then [61, 61] else if o = 6 then [33, 61] else if o = 7 then [60] else if o = 8 then [60, 61] else if o = 9 then [62] else if o = 10 then [62, 61]
  else if o = 11 then [97, 110, 100] else [111, 114]
/-- the level of an expression -/
def levelK (k o : Int) (a : Bool) : Nat :=
  if k = 10 then opLevel o else if k = 9 then 3 else if k = 8 ∨ k = 6 ∨ k = 7 then 7 else if k = 5 then (if a then 7 else 9) else if k = 4 then 8 else 9
def level : E → Nat
  | .mk k o _ _ a _ => levelK k o a
/-- a text where a level is required -/
def par (req : Nat) (x : Nat × Bytes) : Bytes := if x.1 < req then [40] ++ x.2 ++ [41] else x.2
/-- texts with commas between them -/
def commas : List Bytes → Bytes
  | [] => []
  | [x] => x
  | x :: y :: r => x ++ [44, 32] ++ commas (y :: r)
/-- the text of an expression out of the levels and texts of its arguments -/
def node (k o i : Int) (nm : Bytes) (a : Bool) (ts : List (Nat × Bytes)) : Bytes :=
  if k = 0 then dec i.toNat
  else if k = 1 then [110, 105, 108]
  else if k = 2 then [116, 104, 105, 115]
  else if k = 3 then nm
  else if k = 4 then par 8 (ts.headD (9, [])) ++ [46] ++ nm
  else if k = 5 then
    if a then [110, 101, 119, 32] ++ nm ++ [40] ++ commas (ts.dropLast.map Prod.snd) ++ [41, 32, 97, 116, 32] ++ par 7 (ts.getLastD (9, []))
    else [110, 101, 119, 32] ++ nm ++ [40] ++ commas (ts.map Prod.snd) ++ [41]
  else if k = 6 then [119, 101, 97, 107, 32] ++ par 7 (ts.headD (9, []))
  else if k = 7 then [103, 101, 116, 32] ++ par 7 (ts.headD (9, []))
  else if k = 8 then [45] ++ par 7 (ts.headD (9, []))
  else if k = 9 then [110, 111, 116, 32] ++ par 3 (ts.headD (9, []))
  else par (if opLevel o = 4 then 5 else opLevel o) (ts.headD (9, [])) ++ [32] ++ sym o ++ [32] ++ par (opLevel o + 1) ((ts.drop 1).headD (9, []))
mutual
def text : E → Bytes
  | .mk k o i nm a l => node k o i nm.data.toList a (texts l)
def texts : List E → List (Nat × Bytes)
  | [] => []
  | e :: r => (level e, text e) :: texts r
end
theorem texts_map : ∀ l : List E, texts l = l.map fun e => (level e, text e)
  | [] => by rw [texts]; rfl
  | e :: r => by rw [texts, texts_map r]; rfl
/-- the text of an expression, empty if it is not valid -/
def exprText (e : E) : Bytes := if validE e then text e else []

def ind (d : Nat) : Bytes := List.replicate (2 * d) 32
def line (d : Nat) (s : Bytes) : Bytes := ind d ++ s ++ [10]
/-- what a statement without a block says, ts its expressions -/
def simple (k : Int) (nm : Bytes) (ts : List (Nat × Bytes)) : Bytes :=
  if k = 0 then [108, 101, 116, 32] ++ nm ++ [32, 61, 32] ++ (ts.headD (9, [])).2
  else if k = 1 then nm ++ [32, 61, 32] ++ (ts.headD (9, [])).2
  else if k = 2 then par 9 (ts.headD (9, [])) ++ [46] ++ nm ++ [32, 61, 32] ++ ((ts.drop 1).headD (9, [])).2
  else if k = 5 then [115, 101, 110, 100, 32] ++ par 8 (ts.headD (9, [])) ++ [46] ++ nm ++ [40] ++ commas ((ts.drop 1).map Prod.snd) ++ [41]
  else if k = 6 then [112, 114, 105, 110, 116, 32] ++ (ts.headD (9, [])).2
  else if k = 7 then [109, 111, 118, 101, 32] ++ (ts.headD (9, [])).2 ++ [32, 116, 111, 32] ++ ((ts.drop 1).headD (9, [])).2
  else if k = 8 then [119, 97, 116, 99, 104, 32] ++ (ts.headD (9, [])).2 ++ [32, 98, 121, 32] ++ nm ++ [40] ++ ((ts.drop 1).headD (9, [])).2 ++ [41]
  else [114, 101, 116, 117, 114, 110]
/-- the lines of a statement, out of those of its parts, one level deeper -/
def stmtT (d : Nat) (k : Int) (nm : Bytes) (ts : List (Nat × Bytes)) (body els : Bytes) (other : Bool) : Bytes :=
  if k = 3 then line d ([105, 102, 32] ++ (ts.headD (9, [])).2 ++ [32, 123]) ++ body ++ (if other then line d [125, 32, 101, 108, 115, 101, 32, 123] ++ els else []) ++ line d [125]
  else if k = 4 then line d ([119, 104, 105, 108, 101, 32] ++ (ts.headD (9, [])).2 ++ [32, 123]) ++ body ++ line d [125]
  else line d (simple k nm ts ++ [59])
mutual
def stmt : Nat → S → Bytes
  | d, .mk k nm x b l => stmtT d k nm.data.toList (texts x) (stmts (d + 1) b) (stmts (d + 1) l) (decide (0 < l.length))
def stmts : Nat → List S → Bytes
  | _, [] => []
  | d, s :: r => stmt d s ++ stmts d r
end
def methodT (m : M) : Bytes := line 1 ([111, 110, 32] ++ m.name.data.toList ++ [40] ++ commas (m.params.map (·.data.toList)) ++ [41, 32, 123]) ++ stmts 2 m.body ++ line 1 [125]
def fieldT (s : ByteArray) : Bytes := line 1 ([118, 97, 114, 32] ++ s.data.toList ++ [59])
def classT (c : C) : Bytes := line 0 ((if c.actor then [97, 99, 116, 111, 114, 32] else [114, 101, 99, 111, 114, 100, 32]) ++ c.name.data.toList ++ [32, 123]) ++ (c.fields.map fieldT).flatten ++ (c.methods.map methodT).flatten ++ line 0 [125]
def progT (l : List C) : Bytes := (l.map classT).flatten
/-- the text of a program, empty if it is not valid -/
def programText (l : List C) : Bytes := if validP l then progT l else []

/-! ### sizes -/
mutual
def sizeE : E → Nat
  | .mk _ _ _ _ _ l => 1 + sizeEs l
def sizeEs : List E → Nat
  | [] => 0
  | e :: r => sizeE e + sizeEs r
end
mutual
def sizeS : S → Nat
  | .mk _ _ x b l => 1 + sizeEs x + sizeSs b + sizeSs l
def sizeSs : List S → Nat
  | [] => 0
  | s :: r => sizeS s + sizeSs r
end
def sizeM (m : M) : Nat := 1 + m.params.length + sizeSs m.body
def sizeC (c : C) : Nat := 1 + c.fields.length + (c.methods.map sizeM).sum
def sizeP (l : List C) : Nat := (l.map sizeC).sum

/-! ### equality -/
mutual
def sameE : E → E → Bool
  | .mk k o i nm a l, .mk k' o' i' nm' a' l' => decide (k = k') && decide (o = o') && decide (i = i') && decide (nm = nm') && decide (a = a') && sameEs l l'
def sameEs : List E → List E → Bool
  | [], [] => true
  | e :: r, e' :: r' => sameE e e' && sameEs r r'
  | [], _ :: _ => false
  | _ :: _, [] => false
end
mutual
def sameS : S → S → Bool
  | .mk k nm x b l, .mk k' nm' x' b' l' => decide (k = k') && decide (nm = nm') && sameEs x x' && sameSs b b' && sameSs l l'
def sameSs : List S → List S → Bool
  | [], [] => true
  | e :: r, e' :: r' => sameS e e' && sameSs r r'
  | [], _ :: _ => false
  | _ :: _, [] => false
end
mutual
theorem sameE_iff : ∀ a b : E, sameE a b = true ↔ a = b
  | .mk k o i nm a l, .mk k' o' i' nm' a' l' => by
    rw [sameE]
    simp only [Bool.and_eq_true, decide_eq_true_eq, sameEs_iff l l', E.mk.injEq, and_assoc]
theorem sameEs_iff : ∀ a b : List E, sameEs a b = true ↔ a = b
  | [], [] => by simp [sameEs]
  | e :: r, e' :: r' => by rw [sameEs, Bool.and_eq_true, sameE_iff e e', sameEs_iff r r', List.cons.injEq]
  | [], _ :: _ => by simp [sameEs]
  | _ :: _, [] => by simp [sameEs]
end
mutual
theorem sameS_iff : ∀ a b : S, sameS a b = true ↔ a = b
  | .mk k nm x b l, .mk k' nm' x' b' l' => by
    rw [sameS]
    simp only [Bool.and_eq_true, decide_eq_true_eq, sameEs_iff, sameSs_iff b b', sameSs_iff l l', S.mk.injEq, and_assoc]
theorem sameSs_iff : ∀ a b : List S, sameSs a b = true ↔ a = b
  | [], [] => by simp [sameSs]
  | e :: r, e' :: r' => by rw [sameSs, Bool.and_eq_true, sameS_iff e e', sameSs_iff r r', List.cons.injEq]
  | [], _ :: _ => by simp [sameSs]
  | _ :: _, [] => by simp [sameSs]
end
def sameM (m n : M) : Bool := decide (m.name = n.name) && decide (m.params = n.params) && sameSs m.body n.body
theorem sameM_iff (m n : M) : sameM m n = true ↔ m = n := by
  cases m; cases n
  simp only [sameM, Bool.and_eq_true, decide_eq_true_eq, sameSs_iff, M.mk.injEq, and_assoc]
def sameMs : List M → List M → Bool
  | [], [] => true
  | e :: r, e' :: r' => sameM e e' && sameMs r r'
  | [], _ :: _ => false
  | _ :: _, [] => false
theorem sameMs_iff : ∀ a b : List M, sameMs a b = true ↔ a = b
  | [], [] => by simp [sameMs]
  | e :: r, e' :: r' => by rw [sameMs, Bool.and_eq_true, sameM_iff e e', sameMs_iff r r', List.cons.injEq]
  | [], _ :: _ => by simp [sameMs]
  | _ :: _, [] => by simp [sameMs]
def sameC (c d : C) : Bool := decide (c.name = d.name) && decide (c.actor = d.actor) && decide (c.fields = d.fields) && sameMs c.methods d.methods
theorem sameC_iff (c d : C) : sameC c d = true ↔ c = d := by
  cases c; cases d
  simp only [sameC, Bool.and_eq_true, decide_eq_true_eq, sameMs_iff, C.mk.injEq, and_assoc]
def sameCs : List C → List C → Bool
  | [], [] => true
  | e :: r, e' :: r' => sameC e e' && sameCs r r'
  | [], _ :: _ => false
  | _ :: _, [] => false
theorem sameCs_iff : ∀ a b : List C, sameCs a b = true ↔ a = b
  | [], [] => by simp [sameCs]
  | e :: r, e' :: r' => by rw [sameCs, Bool.and_eq_true, sameC_iff e e', sameCs_iff r r', List.cons.injEq]
  | [], _ :: _ => by simp [sameCs]
  | _ :: _, [] => by simp [sameCs]
end Sy
end Go.Proofs.YtlgfickhkejdjaaGreatDoor

namespace Go.Proofs.YtlgfickhkejdjaaGreatDoor
open Go.RowKit

theorem cell_of_blkP {w : World} {g : Nat} {cur : Array Value} {t : TypeId} {r : Nat × Nat} (h : w.heap[g]? = some (.cells cur t r)) {j : Nat} {u : Value} (hu : cur[j]? = some u) : w.cell? ⟨g, j, none⟩ = some u := by simp [World.cell?, h, hu]
/-- block b holds the printer: p its builder's own address, l its bytes -/
structure PrAt (B b : Nat) (p : Value) (l : List UInt8) (deep : Int) (w : World) : Prop where
  hB : B ≤ b
  ex : ∃ v, w.heap[b]? = some (.cells #[p, v, .int .i64 deep] 68 (0, 0)) ∧ w.ownsRow B 5 1 v l.length (Lib.byteCells l) ∧ (l = [] → v = .slice none 0 0)
def PrSt (B b : Nat) (l : List UInt8) (deep : Int) (w : World) : Prop := PrAt B b (.pointer none) l deep w ∨ PrAt B b (.pointer (some ⟨b, 0, none⟩)) l deep w
/-- what a write leaves as it was -/
structure Pk (B b : Nat) (w w' : World) : Prop where
  below : Below B w w'
  others : Lib.OthersKept 5 (some b) w w'
theorem Pk.refl (B b : Nat) (w : World) : Pk B b w w := ⟨Below.refl _ _, Lib.OthersKept.refl _ _ _⟩
theorem Pk.trans {B b : Nat} {u v w : World} (h : Pk B b u v) (k : Pk B b v w) : Pk B b u w := ⟨h.below.trans k.below, h.others.trans k.others⟩
theorem Pk.drew {B b : Nat} {u v : World} (h : Pk B b u v) : Pk B b u v.drew := ⟨h.below.drew, h.others.drew⟩
theorem Pk.alloc {B b : Nat} {u v : World} (h : Pk B b u v) (hB : B ≤ v.heap.size) (o : Obj) : Pk B b u (v.alloc o) := ⟨h.below.alloc hB o, h.others.alloc o⟩
theorem Pk.set {B b : Nat} {u v : World} (h : Pk B b u v) (hB : B ≤ b) (i : Nat) (x : Value) : Pk B b u (v.setCell ⟨b, i, none⟩ x) := ⟨h.below.setCell (p := ⟨b, i, none⟩) hB x, h.others.setCell ⟨b, i, none⟩ rfl x⟩
theorem own_kind {w : World} {B : Nat} {e : TypeId} {v : Value} {n : Nat} {xs : List Value} (h : w.ownsRow B e 1 v n xs) : ∀ g, v.ownBlock = some g → ∃ c fz, w.heap[g]? = some (.cells c e fz) := by
  intro g hg
  rcases h.2 with ⟨rfl, _⟩ | ⟨g', cap, cur, rfl, _, hgg, _⟩
  · simp [Value.ownBlock] at hg
  · simp only [Value.ownBlock, Option.some.injEq] at hg; subst hg; exact ⟨_, _, hgg⟩
theorem Pk.grown {B b : Nat} {u v w : World} {x : Value} {n : Nat} {xs : List Value} (h : Pk B b u v) (hg : v.grownBy w x.ownBlock) (hB : B ≤ v.heap.size) (ho : v.ownsRow B 5 1 x n xs) : Pk B b u w :=
  ⟨h.below.grown hg hB (fun q hq => (ho.lt q hq).1), h.others.grown hg (own_kind ho)⟩
section
variable {B b : Nat} {p : Value} {l : List UInt8} {deep : Int} {w w' : World}
theorem PrAt.lt (h : PrAt B b p l deep w) : b < w.heap.size := by
  obtain ⟨v, hb, _⟩ := h.ex
  exact (Array.getElem?_eq_some_iff.1 hb).1
theorem PrSt.lt (h : PrSt B b l deep w) : b < w.heap.size := h.elim (·.lt) (·.lt)
theorem PrSt.hB (h : PrSt B b l deep w) : B ≤ b := h.elim (·.hB) (·.hB)
theorem PrAt.shape (h : PrAt B b p l deep w) : w.shape? b = some (68, 3) := by
  obtain ⟨v, hb, _⟩ := h.ex
  simp [World.shape?, hb]
theorem PrAt.cell0 (h : PrAt B b p l deep w) : w.cell? ⟨b, 0, none⟩ = some p := by
  obtain ⟨v, hb, _⟩ := h.ex
  simp [World.cell?, hb]
theorem PrAt.cell2 (h : PrAt B b p l deep w) : w.cell? ⟨b, 2, none⟩ = some (.int .i64 deep) := by
  obtain ⟨v, hb, _⟩ := h.ex
  simp [World.cell?, hb]
theorem PrSt.cell2 (h : PrSt B b l deep w) : w.cell? ⟨b, 2, none⟩ = some (.int .i64 deep) := h.elim (·.cell2) (·.cell2)
theorem PrAt.free (h : PrAt B b p l deep w) (i : Nat) : w.frozen? ⟨b, i, none⟩ = false := by
  obtain ⟨v, hb, _⟩ := h.ex
  simp [World.frozen?, hb]
theorem PrSt.free (h : PrSt B b l deep w) (i : Nat) : w.frozen? ⟨b, i, none⟩ = false := h.elim (·.free i) (·.free i)
theorem row_ne {v : Value} {n : Nat} {xs : List Value} {cs : Array Value} {T : TypeId} (ho : w.ownsRow B 5 1 v n xs) (hb : w.heap[b]? = some (.cells cs T (0, 0))) (hT : T ≠ 5) : v.ownBlock ≠ some b := Lib.ownBlock_ne ho hb hT
theorem PrAt.next (h : PrAt B b p l deep w) (hb : Below w.heap.size w w') : PrAt B b p l deep w' := by
  obtain ⟨v, hc, ho, hn⟩ := h.ex
  exact ⟨h.hB, v, (hb.block b h.lt).trans hc, own_below ho hb, hn⟩
theorem PrSt.next (h : PrSt B b l deep w) (hb : Below w.heap.size w w') : PrSt B b l deep w' := h.imp (·.next hb) (·.next hb)
theorem PrAt.set0 (h : PrAt B b p l deep w) (q : Value) : PrAt B b q l deep (w.setCell ⟨b, 0, none⟩ q) := by
  obtain ⟨v, hb, ho, hn⟩ := h.ex
  refine ⟨h.hB, v, ?_, ?_, hn⟩
  · simp [World.setCell, Array.getElem?_modify, hb]
  · exact ho.kept (row := some b) ⟨rfl, rfl, rfl, by simp [World.setCell], fun k _ hk => Below.heap_setCell _ _ _ _ (fun e => hk (by simp [e]))⟩ (Or.inr (row_ne ho hb (by decide)))
theorem PrAt.set2 (h : PrAt B b p l deep w) (d : Int) : PrAt B b p l d (w.setCell ⟨b, 2, none⟩ (.int .i64 d)) := by
  obtain ⟨v, hb, ho, hn⟩ := h.ex
  refine ⟨h.hB, v, ?_, ?_, hn⟩
  · simp [World.setCell, Array.getElem?_modify, hb]
  · exact ho.kept (row := some b) ⟨rfl, rfl, rfl, by simp [World.setCell], fun k _ hk => Below.heap_setCell _ _ _ _ (fun e => hk (by simp [e]))⟩ (Or.inr (row_ne ho hb (by decide)))
theorem PrSt.set2 (h : PrSt B b l deep w) (d : Int) : PrSt B b l d (w.setCell ⟨b, 2, none⟩ (.int .i64 d)) := h.imp (·.set2 d) (·.set2 d)
/-- a box of the walk's own is kept -/
theorem Pk.box (h : Pk B b w w') {k : Nat} {cs : Array Value} {T : TypeId} (hk : w.heap[k]? = some (.cells cs T (0, 0))) (hkb : k ≠ b) (hT : T ≠ 5) : w'.heap[k]? = some (.cells cs T (0, 0)) :=
  h.others k _ hk (fun e => hkb (Option.some.inj e)) (fun c fz e => by injection e with _ e2; exact hT e2)
end
theorem bytes_strCells (s : ByteArray) : Lib.strCells s = Lib.byteCells s.data.toList := rfl
theorem byteCells_app (l r : List UInt8) : Lib.byteCells (l ++ r) = Lib.byteCells l ++ Lib.byteCells r := by unfold Lib.byteCells; rw [List.map_append]

theorem builderInfo : (Tryz.prog.info? 66).map (·.size) = some 2 := by kernel_rfl
theorem byteInfo : (Tryz.prog.info? 5).map (fun i => (i.zero, i.size, i.bytes)) = some (some (.int .u8 0), 1, 1) := by kernel_rfl
theorem byteCellsOf : Tryz.prog.cellsOf 5 = 1 := by kernel_rfl
theorem liesPrinter : liesAt Tryz.prog Tryz.prog.depth 68 (3 / Tryz.prog.cellsOf 68) 0 66 1 = true := by kernel_rfl

set_option maxHeartbeats 1000000 in
set_option maxRecDepth 100000 in
theorem ccheck_any {B b : Nat} {l : List UInt8} {deep : Int} (w : World) (h : PrSt B b l deep w) :
    Calls Tryz.prog 137 #[.pointer (some ⟨b, 0, none⟩)] w fun e w' => e = .returned (.tuple #[]) ∧ PrAt B b (.pointer (some ⟨b, 0, none⟩)) l deep w' ∧ Pk B b w w' := by
  obtain ⟨j, hj, hjs⟩ := Option.map_eq_some_iff.1 builderInfo
  rcases h with h | h
  · have h0 := h.cell0
    have hsh := h.shape
    have hfz := h.free 0
    have HH := Lib.hid h
    clear h
    go_enter Tryz.func137, Tryz.ntmps137
    go_wp2
    rw [Lib.run_to_unsafe w ⟨b, 0, none⟩ Tryz.underlying63 Tryz.underlying170 hj (by rw [hjs]; decide) hsh (by decide : 0 < 3)]
    simp only [Result.andThen]
    rw [Oper.upon_value]
    go_wp2
    rw [run_callFunc_extern Tryz.func155 (by kernel_rfl) (by kernel_rfl) (by kernel_rfl) (e := Extern.AbiNoEscape.same) (by kernel_rfl)]
    rw [Lib.run_noEscape]
    simp only [Result.andThen]
    rw [Oper.upon_value]
    go_wp2
    rw [Lib.run_from_unsafe w ⟨b, 0, none⟩ Tryz.underlying170 Tryz.underlying63 hj hsh liesPrinter]
    simp only [Result.andThen]
    rw [Oper.upon_value]
    go_wp2
    go_end0
    exact ⟨rfl, HH.out.set0 _, (Pk.refl B b w).set HH.out.hB 0 _⟩
  · have h0 := h.cell0
    have HH := Lib.hid h
    clear h
    go_enter Tryz.func137, Tryz.ntmps137
    go_wp2
    rw [Lib.run_neq_ptr_same w _ Tryz.underlying63 hj]
    go_wp2
    go_end0
    exact ⟨rfl, HH.out, Pk.refl _ _ _⟩

set_option maxHeartbeats 2000000 in
set_option maxRecDepth 100000 in
theorem writeStr_any {B b : Nat} {l : List UInt8} {deep : Int} (s : ByteArray) (w : World) (h : PrSt B b l deep w) (hlen : l.length + s.size ≤ 140737488355328) (hBw : B ≤ w.heap.size) :
    Calls Tryz.prog 111 #[.pointer (some ⟨b, 0, none⟩), .string s] w fun e w' => e = .returned (.tuple #[.int .i64 s.size, .nilIface]) ∧ PrSt B b (l ++ s.data.toList) deep w' ∧ Pk B b w w' := by
  obtain ⟨i0, hi, hz0, hz1, hz2⟩ := info_parts byteInfo
  have HC := Lib.hid (ccheck_any w h)
  clear h
  go_enter Tryz.func111, Tryz.ntmps111
  go_wp2_with fail
  refine HC.out.mono ?_
  rintro e w1 ⟨rfl, h1, k1⟩
  obtain ⟨v, hbk, hown, hnil⟩ := h1.ex
  have c0 := cell_of_blkP hbk (j := 0) rfl
  have c1 := cell_of_blkP hbk (j := 1) rfl
  have HNIL := Lib.hid hnil
  have hB := h1.hB
  have hb1 := k1.below.size
  go_wp2_with (at_builtin; refine Lib.wpList_append_own_string _ rfl _ _ 64 9 rfl B 5 i0 Tryz.underlying64 Tryz.underlying9 hi hz0 hz1 hz2 _ _ _ rfl hown s rfl ?c3 ?c4 ?c5 ?_)
  case c3 => unfold maxLen; omega
  case c4 => omega
  case c5 => omega
  intro v' w2 hown' hgrow hn
  have hne : v.ownBlock ≠ some b := row_ne hown hbk (by decide)
  have hlt := h1.lt
  have hb2 : w2.heap[b]? = some (.cells #[.pointer (some ⟨b, 0, none⟩), v, .int .i64 deep] 68 (0, 0)) := (hgrow.block b hlt (fun e => hne e.symm)).trans hbk
  have d0 := cell_of_blkP hb2 (j := 0) rfl
  have d1 := cell_of_blkP hb2 (j := 1) rfl
  have f1 : w2.frozen? ⟨b, 1, none⟩ = false := by simp [World.frozen?, hb2]
  obtain ⟨ao, n', cap, rfl⟩ : ∃ ao n' cap, v' = .slice ao n' cap := by
    rcases hown'.2 with ⟨hv, _⟩ | ⟨g, cap, cur, hv, _⟩
    · exact ⟨_, _, _, hv⟩
    · exact ⟨_, _, _, hv⟩
  have HK := Lib.hid ((k1.grown hgrow (by omega) hown).set hB 1 (.slice ao n' cap))
  have HO := Lib.hid hown'
  have HN := Lib.hid hn
  have HB2 := Lib.hid hb2
  clear hown' hn hown hgrow k1 h1 c0 c1 hbk hnil
  go_wp2_with fail
  go_ret2
  refine ⟨rfl, Or.inr ⟨hB, .slice ao n' cap, ?_, ?_, ?_⟩, HK.out⟩
  · have := HB2.out
    simp [World.setCell, Array.getElem?_modify, this]
  · have ho : w2.ownsRow B 5 1 (.slice ao n' cap) (l ++ s.data.toList).length (Lib.byteCells (l ++ s.data.toList)) := by
      rw [List.length_append, byteCells_app]
      exact HO.out
    exact ho.kept (row := some b) ⟨rfl, rfl, rfl, by simp [World.setCell], fun k _ hk => Below.heap_setCell _ _ _ _ (fun e => hk (by simp [e]))⟩ (Or.inr (row_ne ho HB2.out (by decide)))
  · intro h0
    have h1 := List.append_eq_nil_iff.1 h0
    refine HN.out.2 ⟨HNIL.out h1.1, ?_⟩
    exact ByteArray.ext (Array.toList_eq_nil_iff.1 h1.2)

theorem cellAt_run (w : World) (b : Nat) (p v : Value) (deep : Int) (h : w.heap[b]? = some (.cells #[p, v, .int .i64 deep] 68 (0, 0))) : w.drew.cell? ⟨b, 1, none⟩ = some v := by
  have : w.drew.heap[b]? = some (.cells #[p, v, .int .i64 deep] 68 (0, 0)) := h
  rw [Lib.cell_of_heap this]; rfl
set_option maxHeartbeats 2000000 in
set_option maxRecDepth 100000 in
theorem prString_any {B b : Nat} {l : List UInt8} {deep : Int} (w : World) (h : PrSt B b l deep w) :
    Calls Tryz.prog 43 #[.pointer (some ⟨b, 0, none⟩)] w fun e w' => e = .returned (.string ⟨l.toArray⟩) ∧ Below B w w' := by
  obtain ⟨p, hA⟩ : ∃ p, PrAt B b p l deep w := by
    rcases h with h | h
    · exact ⟨_, h⟩
    · exact ⟨_, h⟩
  obtain ⟨v, hbk, hown, hnil⟩ := hA.ex
  clear h
  by_cases h0 : l = []
  · subst h0
    obtain rfl := hnil rfl
    have hUS : ∀ W, (Builtin.unsafeString_ #[104, 3] 9 #[.pointer none, .int .i64 0]).run Tryz.prog W = .ok (.string .empty) W := fun W => Lib.run_unsafeString_none W _ _ _ none
    have c1 := cellAt_run w b p _ deep hbk
    have hSD : (Builtin.unsafeSliceData_ #[64] 104 #[.slice none 0 0]).run Tryz.prog w.drew = .ok (.pointer none) w.drew := rfl
    clear hown hA hnil hbk
    go_enter Tryz.func43, Tryz.ntmps43
    go_wp2
    go_region
    all_goals (go_wp2; go_ret; exact ⟨rfl, Below.drew (Below.refl B w)⟩)
  · have hl0 : l.length ≠ 0 := by simpa using h0
    obtain ⟨g, cap, cur, rfl, hbg, hg, hnc, hcm, hcs, htake⟩ : ∃ g cap cur, v = .slice (some ⟨g, 0, none⟩) l.length cap ∧ B ≤ g ∧ w.heap[g]? = some (.cells cur 5 (0, 0)) ∧ l.length ≤ cap ∧ cap ≤ maxLen ∧ cur.size = cap * 1 ∧ cur.toList.take (l.length * 1) = Lib.byteCells l := by
      rcases hown.2 with ⟨_, hz⟩ | ⟨g, cap, cur, hv, r⟩
      · exact absurd hz hl0
      · exact ⟨g, cap, cur, hv, r⟩
    have c1 := cellAt_run w b p _ deep hbk
    have hSD : (Builtin.unsafeSliceData_ #[64] 104 #[.slice (some ⟨g, 0, none⟩) l.length cap]).run Tryz.prog w.drew = .ok (.pointer (some ⟨g, 0, none⟩)) w.drew :=
      Lib.run_unsafeSliceData_row _ _ _ _ _ _ (by omega)
    have hUS : (Builtin.unsafeString_ #[104, 3] 9 #[.pointer (some ⟨g, 0, none⟩), .int .i64 l.length]).run Tryz.prog w.drew = .ok (.string ⟨l.toArray⟩) (w.drew.freeze ⟨g, 0, none⟩ l.length) := by
      refine Lib.run_unsafeString_row w.drew 104 3 9 5 Tryz.underlying104 byteCellsOf g cur.size (by have hg' : w.drew.heap[g]? = some (.cells cur 5 (0, 0)) := hg; simp [World.shape?, hg']) l h0 (by omega) (by unfold maxLen at hcm; omega) ?_
      intro j x hx
      have := hown.cells (g := g) rfl j (.int .u8 x.toNat) (by simp [Lib.byteCells, hx])
      exact this
    have HBG := Lib.hid hbg
    clear hown hA hnil hbk hg hnc hcm hcs htake hbg h0 hl0
    go_enter Tryz.func43, Tryz.ntmps43
    go_wp2
    go_region
    all_goals (go_wp2; go_ret; exact ⟨rfl, Lib.below_freeze (Below.drew (Below.refl B w)) (p := ⟨g, 0, none⟩) HBG.out _⟩)
end Go.Proofs.YtlgfickhkejdjaaGreatDoor

namespace Go.Proofs.YtlgfickhkejdjaaGreatDoor
open Go.RowKit

/-- the package-level variables that printing reads -/
structure PrEnv (w : World) : Prop where
  ops : ∀ o : Nat, o ≤ 12 → w.cell? ⟨1, o * 2, none⟩ = some (.string ⟨(Sy.sym o).toArray⟩) ∧ w.cell? ⟨1, o * 2 + 1, none⟩ = some (.int .i64 (Sy.opLevel o : Nat))
  tab : Lib.TabIs Tryz.prog w "internal/strconv.uint64pow10" .u64 Lib.pow10Tab
theorem PrEnv.lt {w : World} (h : PrEnv w) : 1 < w.heap.size := cell_lt' (h.ops 0 (by omega)).1
/-- what a printing call is given: the printer in block b, everything else below B as it was at w0 -/
structure PrIn (w0 : World) (B b : Nat) (l : List UInt8) (deep : Int) (w : World) : Prop where
  st : PrSt B b l deep w
  base : Below w0.heap.size w0 w
  le : w0.heap.size ≤ B
  leB : B ≤ w.heap.size
def PrPost (B b : Nat) (l t : List UInt8) (deep : Int) (w : World) (e : Ending) (w' : World) : Prop :=
  e = .returned (.tuple #[]) ∧ PrSt B b (l ++ t) deep w' ∧ Pk B b w w'
section
variable {w0 : World} {B b : Nat} {l : List UInt8} {deep : Int} {w w' : World}
theorem PrIn.next (h : PrIn w0 B b l deep w) {l' : List UInt8} (hs : PrSt B b l' deep w') (hk : Pk B b w w') : PrIn w0 B b l' deep w' :=
  ⟨hs, h.base.trans (hk.below.mono h.le), h.le, Nat.le_trans h.leB hk.below.size⟩
theorem PrIn.box (h : PrIn w0 B b l deep w) (o : Obj) : PrIn w0 B b l deep (w.alloc o) := h.next (h.st.next (below_box w o)) ((Pk.refl B b w).alloc h.leB o)
theorem PrIn.drew (h : PrIn w0 B b l deep w) : PrIn w0 B b l deep w.drew := h.next (h.st.next (Below.refl _ w).drew) (Pk.refl B b w).drew
theorem PrIn.lt (h : PrIn w0 B b l deep w) : b < w.heap.size := h.st.lt
theorem PrIn.ne (h : PrIn w0 B b l deep w) : w.heap.size ≠ b := by have := h.lt; omega
theorem PrIn.pk (h : PrIn w0 B b l deep w) (o : Obj) : Pk B b w (w.alloc o) := (Pk.refl B b w).alloc h.leB o
theorem PrPost.of (h : Pk B b w w') {l1 l2 t : List UInt8} {e : Ending} {W : World} (hp : PrPost B b l1 l2 deep w' e W) (ht : l1 ++ l2 = l ++ t) : PrPost B b l t deep w e W :=
  ⟨hp.1, ht ▸ hp.2.1, h.trans hp.2.2⟩
end
/-- the bytes of strings, one after the other -/
def flatB (ts : List ByteArray) : List UInt8 := (ts.map (·.data.toList)).flatten
theorem flatB_app (a b : List ByteArray) : flatB (a ++ b) = flatB a ++ flatB b := by unfold flatB; rw [List.map_append, List.flatten_append]
theorem flatB_take {ts : List ByteArray} {j : Nat} {s : ByteArray} (h : ts[j]? = some s) : flatB (ts.take (j + 1)) = flatB (ts.take j) ++ s.data.toList := by
  rw [List.take_add_one, h, flatB_app]; simp [flatB]
theorem flatB_le (ts : List ByteArray) (j : Nat) : (flatB (ts.take j)).length ≤ (flatB ts).length := by
  have h : flatB ts = flatB (ts.take j) ++ flatB (ts.drop j) := by rw [← flatB_app, List.take_append_drop]
  rw [h, List.length_append]; omega

set_option maxRecDepth 100000 in
set_option maxHeartbeats 2000000 in
theorem write_any {w0 : World} {B b : Nat} {l : List UInt8} {deep : Int} {w : World} (hI : PrIn w0 B b l deep w) (ts : List ByteArray) (q n : Nat) (hq : w.heap[q]? = some (.cells (ts.map Value.string).toArray 9 (0, 0))) (hqb : q ≠ b) (hn : ts.length = n)
    (hlen : l.length + (flatB ts).length ≤ 140737488355328) (hn2 : n ≤ 1000000) :
    Calls Tryz.prog 77 #[.pointer (some ⟨b, 0, none⟩), .slice (some ⟨q, 0, none⟩) n n] w (PrPost B b l (flatB ts) deep w) := by
  have HI := Lib.hid hI
  have HQ := Lib.hid hq
  have HN := Lib.hid hn
  have HL := Lib.hid hlen
  have HB := Lib.hid hqb
  clear hI hq hn hlen hqb
  go_enter Tryz.func77, Tryz.ntmps77
  go_wp2_with fail
  go_loopg [5, 8] n (fun g s5 s8 wr => ∃ j : Nat, s8 = .int .i64 j ∧ j ≤ n ∧ g = n - j ∧ Hid (PrIn w0 B b (l ++ flatB (ts.take j)) deep wr) ∧ Hid (Pk B b w wr))
  case atStart => exact ⟨0, rfl, Nat.zero_le _, rfl, by show PrIn _ _ _ _ _ _; rw [List.take_zero]; simpa [flatB] using HI.out, Pk.refl _ _ _⟩
  case round =>
    obtain ⟨j, rfl, hj, rfl, HST, HK⟩ := hrel
    by_cases hlt : j < n
    · obtain ⟨s, hs⟩ : ∃ s, ts[j]? = some s := ⟨_, List.getElem?_eq_getElem (by rw [HN.out]; exact hlt)⟩
      have hcell := cell_of_blkP (HK.out.box HQ.out HB.out (by decide)) (j := j) (u := .string s) (by rw [List.getElem?_toArray, List.getElem?_map, hs]; rfl)
      have hf := flatB_take hs
      have hle := flatB_le ts (j + 1)
      have hcall := writeStr_any s wr HST.out.st (by have := HL.out; rw [hf, List.length_append] at hle; rw [List.length_append]; have e : s.data.toList.length = s.size := rfl; omega) HST.out.leB
      have HC := Lib.hid hcall
      have HF := Lib.hid hf
      have b3 : (j : Int) < (n : Int) := by omega
      clear hs hcall hf hle
      go_wp2_with fail
      refine HC.out.mono ?_
      rintro e w2 ⟨rfl, hs2, hk2⟩
      have HS2 := Lib.hid hs2
      have HK2 := Lib.hid hk2
      clear hs2 hk2 hcell
      go_wp2_with fail
      go_roundg (n - (j + 1))
      case measure => omega
      case rel =>
        refine ⟨j + 1, by go_num, by omega, rfl, ?_, HK.out.trans HK2.out⟩
        have h1 := HST.out.next HS2.out HK2.out
        rw [List.append_assoc, ← HF.out] at h1
        exact h1
    · obtain rfl : j = n := by omega
      have hfull : ts.take j = ts := List.take_of_length_le (by rw [HN.out]; exact Nat.le_refl _)
      rw [hfull] at HST
      clear hfull
      go_wp2_with fail
      go_end0
      exact ⟨rfl, HST.out.st, HK.out⟩
/-- write of literal texts: the block of the texts is made by the call's own statement -/
theorem wr_any {w0 : World} {B b : Nat} {l : List UInt8} {deep : Int} {W : World} (hI : PrIn w0 B b l deep W) (ts : List ByteArray) (n : Nat) (cs : Array Value) (t : List UInt8) (hcs : cs = (ts.map Value.string).toArray) (hn : ts.length = n) (ht : flatB ts = t)
    (hlen : l.length + t.length ≤ 140737488355328) (hn2 : n ≤ 1000000) :
    Calls Tryz.prog 77 #[.pointer (some ⟨b, 0, none⟩), .slice (some ⟨W.heap.size, 0, none⟩) n n] (W.alloc (.cells cs 9)) (PrPost B b l t deep W) := by
  subst hcs ht
  refine (write_any (hI.box _) ts W.heap.size n (MapKept.heap_alloc W _).1 hI.ne hn hlen hn2).mono fun e w' h => ?_
  exact PrPost.of (hI.pk _) h rfl

set_option maxRecDepth 100000 in
set_option maxHeartbeats 2000000 in
theorem level_any (e : Tr.E) (p : Option Addr) (N c : Nat) (w0 w : World) (hE : PrEnv w0) (hb : Below w0.heap.size w0 w) (ho : e.kind = 10 → 0 ≤ e.op ∧ e.op ≤ 12) :
    Calls Tryz.prog 76 #[exprV e (.slice p N c)] w fun r w' => r = .returned (.int .i64 (Sy.level e : Nat)) ∧ w' = w.alloc (.cells #[.int .i64 e.kind, .int .i64 e.op, .int .i64 e.int, .string e.name, .bool e.at_, .slice p N c] 24) := by
  obtain ⟨k, o, i, nm, a1, l⟩ := e
  unfold exprV
  simp only [Tr.E.kind, Tr.E.op, Tr.E.int, Tr.E.name, Tr.E.at_] at ho ⊢
  by_cases h10 : k = 10
  · subst h10
    obtain ⟨o0, o1⟩ := ho rfl
    obtain ⟨O, rfl⟩ : ∃ q : Nat, o = q := ⟨o.toNat, by omega⟩
    have c1 := cell_keep' hb (hE.ops O (by omega)).2
    have hlt := Nat.lt_of_lt_of_le hE.lt hb.size
    have b3 : (O : Int) < 13 := by omega
    clear hE hb ho
    go_enter Tryz.func76, Tryz.ntmps76
    go_wp2_with fail
    go_ret
    exact ⟨rfl, rfl⟩
  · clear ho
    by_cases h9 : k = 9
    · subst h9
      go_enter Tryz.func76, Tryz.ntmps76
      go_wp2_with fail
      go_ret
      exact ⟨rfl, rfl⟩
    · have n9 : (k == 9) = false := beq_eq_false_iff_ne.2 h9
      by_cases h8 : k = 8
      · subst h8
        go_enter Tryz.func76, Tryz.ntmps76
        go_wp2_with fail
        go_ret
        exact ⟨rfl, rfl⟩
      · have n8 : (k == 8) = false := beq_eq_false_iff_ne.2 h8
        by_cases h6 : k = 6
        · subst h6
          go_enter Tryz.func76, Tryz.ntmps76
          go_wp2_with fail
          go_ret
          exact ⟨rfl, rfl⟩
        · have n6 : (k == 6) = false := beq_eq_false_iff_ne.2 h6
          by_cases h7 : k = 7
          · subst h7
            go_enter Tryz.func76, Tryz.ntmps76
            go_wp2_with fail
            go_ret
            exact ⟨rfl, rfl⟩
          · have n7 : (k == 7) = false := beq_eq_false_iff_ne.2 h7
            by_cases h5 : k = 5
            · subst h5
              cases a1
              · go_enter Tryz.func76, Tryz.ntmps76
                go_wp2_with fail
                go_ret
                exact ⟨rfl, rfl⟩
              · go_enter Tryz.func76, Tryz.ntmps76
                go_wp2_with fail
                go_ret
                exact ⟨rfl, rfl⟩
            · have n5 : (k == 5) = false := beq_eq_false_iff_ne.2 h5
              by_cases h4 : k = 4
              · subst h4
                go_enter Tryz.func76, Tryz.ntmps76
                go_wp2_with fail
                go_ret
                exact ⟨rfl, rfl⟩
              · have n4 : (k == 4) = false := beq_eq_false_iff_ne.2 h4
                have n10 : (k == 10) = false := beq_eq_false_iff_ne.2 h10
                have HV : Hid (Sy.levelK k o a1 = 9) := by show _ = _; unfold Sy.levelK; rw [if_neg h10, if_neg h9, if_neg (by omega), if_neg h5, if_neg h4]
                clear h10 h9 h8 h6 h7 h5 h4
                go_enter Tryz.func76, Tryz.ntmps76
                go_wp2_with fail
                go_ret
                exact ⟨by have h9 : Sy.level (.mk k o i nm a1 l) = 9 := HV.out; rw [h9]; rfl, rfl⟩
end Go.Proofs.YtlgfickhkejdjaaGreatDoor
