/-
  What all the cards of the laws of chapter 38 share: a program as an argument; a world that holds the listed variables.
-/
import Derived.Test.YtlgfickhkejdjaaGreatDoorMSyEnv
import Derived.Test.YtlgfickhkejdjaaGreatDoorMTrA
import Derived.Test.YtlgfickhkejdjaaGreatDoorTie
import Derived.Deep.DeepHandedRow
import Derived.Deep.DeepWitnessRowRef
import Derived.Lib.LaidTab
import Derived.Lib.SmallJoins
namespace Go.Proofs.YtlgfickhkejdjaaGreatDoor
open Go.RowKit Go.ChangeShapes Go.WideShapes

noncomputable def structFs (t : Nat) : Array Field := match Tryz.prog.underlying t with | some (.struct fs) => fs | _ => #[]
theorem typesC : TypesC Tryz.prog 32 52 30 49 50 47 46 44 24 22 3 2 9 4 where
  int := Tryz.underlying3
  i64 := Tryz.underlying2
  str := Tryz.underlying9
  bool := Tryz.underlying4
  sl := Tryz.underlying22
  st := ⟨structFs 24, by kernel_rfl, by kernel_rfl, by kernel_rfl⟩
  size := by kernel_rfl
  slS := Tryz.underlying44
  stS := ⟨structFs 46, by kernel_rfl, by kernel_rfl, by kernel_rfl⟩
  sizeS := by kernel_rfl
  strs := Tryz.underlying47
  sizeStr := by kernel_rfl
  slM := Tryz.underlying50
  stM := ⟨structFs 49, by kernel_rfl, by kernel_rfl, by kernel_rfl⟩
  sizeM := by kernel_rfl
  slC := Tryz.underlying30
  stC := ⟨structFs 52, by kernel_rfl, by kernel_rfl, by kernel_rfl⟩
  sizeC := by kernel_rfl
  stP := ⟨structFs 32, by kernel_rfl, by kernel_rfl, by kernel_rfl⟩
  sizeP := by kernel_rfl
set_option maxRecDepth 100000 in
/-- a program that came in -/
theorem open_prog {H : Type} {enc : TypeId × Value → H} {W : World} {r : Reach} {b0 : Nat} {base : Nat} {sp : Nat → Bool} {held : Bool} {v : Value} {d : DataW H} {p : List MemPlace} (hv : Value.okWide Tryz.prog W r b0 32 v) (h : DataW.Trod enc Tryz.prog W base sp held 32 v d p) :
    ∃ l a, v = .agg #[a] ∧ SlC W a l := by
  obtain ⟨fs, h1, h2, h3⟩ := typesC.stP
  have hfs : fs.size = 1 := by have := congrArg List.length h3; simpa using this
  obtain ⟨cs, rfl, hsz⟩ := okWide_struct h1 hv
  obtain ⟨fuel, hf⟩ := h
  obtain ⟨n, hn, hl, hx⟩ := fields_one h1 h2 (by rw [typesC.sizeP, hfs]) hf
  obtain ⟨f0, g0, e0⟩ := field_of h3 (j := 0) rfl
  obtain ⟨v0, y0, c0, t0⟩ := hx 0 f0 g0
  rw [e0] at t0
  obtain ⟨u, l, hu, hs⟩ := open_classes typesC t0
  cases hu
  refine ⟨l, v0, ?_, hs⟩
  have hz : cs.size = 1 := hsz.trans typesC.sizeP
  congr 1
  apply Array.ext
  · simp [hz]
  · intro i h1 h2
    have hi : i = 0 := by omega
    subst hi
    have hc : cs.toList[0]? = some v0 := by simpa [Value.cells] using c0
    rw [Array.getElem?_toList] at hc
    have := (Array.getElem?_eq_some_iff.1 hc).2
    simpa using this
set_option maxRecDepth 100000 in
/-- an expression that came in -/
theorem open_expr {H : Type} {enc : TypeId × Value → H} {W : World} {r : Reach} {b0 : Nat} {base : Nat} {sp : Nat → Bool} {held : Bool} {v : Value} {d : DataW H} {p : List MemPlace} (hv : Value.okWide Tryz.prog W r b0 24 v) (h : DataW.Trod enc Tryz.prog W base sp held 24 v d p) :
    ∃ e a, v = exprV e a ∧ BdE e ∧ SlE W a e.args := by
  obtain ⟨fs, h1, h2, h3⟩ := typesC.st
  have hfs : fs.size = 6 := by have := congrArg List.length h3; simpa using this
  obtain ⟨cs, rfl, hsz⟩ := okWide_struct h1 hv
  obtain ⟨fuel, hf⟩ := h
  obtain ⟨n, k, o, i, s, b, a, y, _, hcs, wk, wo, wi, ws, ht⟩ := open_expr_cells typesC.toTypesS.toTypesE hf
  obtain ⟨u, l, hu, hs⟩ := open_exprs typesC.toTypesS.toTypesE _ ht
  cases hu
  refine ⟨.mk k o i s b l, a, ?_, ⟨wk, wo, wi, ws⟩, hs⟩
  have hl : cs.toList = [.int .i64 k, .int .i64 o, .int .i64 i, .string s, .bool b, a] := hcs
  show Value.agg cs = .agg #[.int .i64 k, .int .i64 o, .int .i64 i, .string s, .bool b, a]
  congr 1
  apply Array.toList_inj.1
  rw [hl]
theorem own : ownKnob Tryz.prog.godebug = none := by kernel_rfl
theorem laidOut : laidOutB Tryz.prog = true := by kernel_rfl

/-- integers out of a datum that is a row of them -/
def rowOf : DataW Unit → List Value
  | .agg l => l.map fun | .lit (.int k n) => .int k n | .lit (.bool b) => .bool b | .lit (.string s) => .string ⟨s.toArray⟩ | _ => .nilIface
  | _ => []
def rowsOf : DataW Unit → List Value
  | .agg l => l.flatMap rowOf
  | _ => []
def strsOf (l : List (List UInt8)) : Array Value := (l.map fun x => Value.string ⟨x.toArray⟩).toArray

/-- A world for the witness: the settled one, the listed variables holding what their initialisers lay. -/
noncomputable def laidWorld (os : Os) : World :=
  let N := (World.settled Tryz.prog os).heap.size
  let w0 := World.holding Tryz.prog os ⟨#[
    .cells (strsOf Lex.keywords) 9, .cells (strsOf Lex.symbols) 9,
    .cells #[.string ⟨#[105, 110, 118, 97, 108, 105, 100, 32, 115, 121, 110, 116, 97, 120]⟩] 214,
    .cells #[.string ⟨#[118, 97, 108, 117, 101, 32, 111, 117, 116, 32, 111, 102, 32, 114, 97, 110, 103, 101]⟩] 214], #[], []⟩
  let put (h : Array Obj) (g : Nat) (cs : Array Value) : Array Obj := h.modify g fun
    | .cells _ t frozen => .cells cs t frozen
    | o => o
  let h := put w0.heap 7 #[.slice (some ⟨N, 0, none⟩) 24 24]
  let h := put h 5 #[.slice (some ⟨N + 1, 0, none⟩) 19 19]
  let h := put h 10 #[.iface 212 (.pointer (some ⟨N + 2, 0, none⟩))]
  let h := put h 11 #[.iface 212 (.pointer (some ⟨N + 3, 0, none⟩))]
  let h := put h 3 (rowOf Go.Pinned.utf8First).toArray
  let h := put h 4 (rowsOf Rows.laid_unicode_utf8_acceptRanges).toArray
  let h := put h 6 (rowOf Rows.laid_internal_strconv_uint64pow10).toArray
  let h := put h 8 (rowOf Rows.laid_math_bits_deBruijn32tab).toArray
  let h := put h 9 (rowOf Rows.laid_math_bits_deBruijn64tab).toArray
  let h := put h 1 (rowsOf Rows.laid_refmesh_syntax_operators).toArray
  let h := put h 0 (rowsOf Rows.laid_refmesh_syntax_forms).toArray
  { w0 with heap := h }

theorem laid_met (os : Os) (args : Array Value) : laidMet Tryz.prog Rows.syntaxExprsRow.laid ((laidWorld os).forCall (fun _ _ => 0) ⟨#[], args, []⟩).memory :=
  laidMet_of_run' 8 (by kernel_rfl) (by kernel_rfl)
end Go.Proofs.YtlgfickhkejdjaaGreatDoor
