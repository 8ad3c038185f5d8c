/-
  What all the cards of the lexer's laws share: the last step of a law that returns true, and a world that holds the listed variables.
-/
import Derived.Test.YtdckddkalgnlpaaGreatDoorJ26
import Derived.Test.YtdckddkalgnlpaaGreatDoorTie
import Derived.Below
import Derived.ChangeSame
import Derived.Deep.DeepHandedRow
import Derived.Deep.DeepWitnessRowRef
import Derived.Lib.LaidTab
namespace Go.Proofs.YtdckddkalgnlpaaGreatDoor
open Go.RowKit Go.WideShapes Go.ChangeShapes
section
variable {H : Type} {enc : TypeId × Value → H} {P : Program}
/-- The row's last step, of a call that has turned nothing that was there. -/
theorem post_kept {f : Func} {s : ChangeSpec} {apart fresh handsOn again : Bool} {W W' : World} {args : Array Value} {v : Value} {ds gs : List (DataW H)} {before pa pv : List MemPlace}
    (hW : DataW.Whole enc P f.params.toList s.vars apart W args.toList ds gs before) (hb : Below W.heap.size W W')
    (hres : ∀ (b : Nat) (sp : Nat → Bool) (hd : Bool), DataW.TrodAll enc P W' b sp hd f.resultTypes.toList (v.resultList f.resultTypes.size) (s.fn H (ds ++ gs)).results [])
    (hargs : ∀ sp : Nat → Bool, (∀ p ∈ before, sp p.block = true) → DataW.TrodAll enc P W' 0 sp true f.params.toList args.toList (s.fn H (ds ++ gs)).args pa)
    (hvars : ∀ sp : Nat → Bool, (∀ p ∈ before, sp p.block = true) → DataW.TrodVars enc P W' sp s.vars (s.fn H (ds ++ gs)).vars pv)
    (hps : before = pa ++ pv)
    (hok : ∀ (j : Nat) (t : TypeId) (r : Value), f.resultTypes[j]? = some t → (v.resultList f.resultTypes.size)[j]? = some r → Value.okWide P W' .any 0 t r) :
    s.post enc P f apart fresh handsOn again W args v W' := by
  subst hps
  have old : ∀ p ∈ pa ++ pv, decide (p.block < W.heap.size) = true := fun p hp => decide_eq_true (hW.lt p hp)
  refine ⟨ds, gs, pa ++ pv, [], pa, pv, hW, hres _ _ _, hargs (fun b => decide (b < W.heap.size)) old, hvars (fun b => decide (b < W.heap.size)) old, World.keptBut_mono (fun p hp => ⟨hp, .inr (List.mem_append.1 hp)⟩) (hb.frame (· ∈ pa ++ pv)), fun _ => ⟨hok, ?_⟩⟩
  obtain ⟨_, _, _, _, _, hz, hn⟩ := hW
  refine ⟨_, _, ([] ++ pa) ++ pv, ⟨[] ++ pa, pv, trodAll_append (hargs _ (fun _ _ => rfl)) (hres _ _ _), hvars _ (fun _ _ => rfl), rfl, fun b off hp => ?_, fun ha => ?_⟩, fun p hp _ => by simpa using hp⟩
  · have hin : MemPlace.cell b off ∈ pa ++ pv := by simpa using hp
    rw [hb.frozen (of_decide_eq_true (old _ hin))]
    exact hz b off hin
  · simpa using hn ha
end
theorem own : ownKnob Tryz.prog.godebug = none := by kernel_rfl
/-- integers out of a datum that is a row of them -/
def rowOf : DataW Unit → List Value
  | .agg l => l.map fun | .lit (.int k n) => .int k n | _ => .nilIface
  | _ => []
def rowsOf : DataW Unit → List Value
  | .agg l => l.flatMap rowOf
  | _ => []
def strsOf (l : List (List UInt8)) : Array Value := (l.map fun x => Value.string ⟨x.toArray⟩).toArray
/-- A world for the witness: the settled one, the listed variables holding what their initialisers lay. -/
noncomputable def laidWorld (os : Os) : World :=
  let N := (World.settled Tryz.prog os).heap.size
  let w0 := World.holding Tryz.prog os ⟨#[
    .cells (strsOf Lex.keywords) 9, .cells (strsOf Lex.symbols) 9,
    .cells #[.string ⟨#[105, 110, 118, 97, 108, 105, 100, 32, 115, 121, 110, 116, 97, 120]⟩] 227,
    .cells #[.string ⟨#[118, 97, 108, 117, 101, 32, 111, 117, 116, 32, 111, 102, 32, 114, 97, 110, 103, 101]⟩] 227], #[], []⟩
  let put (h : Array Obj) (g : Nat) (cs : Array Value) : Array Obj := h.modify g fun
    | .cells _ t frozen => .cells cs t frozen
    | o => o
  let h := put w0.heap 3 #[.slice (some ⟨N, 0, none⟩) 24 24]
  let h := put h 1 #[.slice (some ⟨N + 1, 0, none⟩) 19 19]
  let h := put h 5 #[.iface 225 (.pointer (some ⟨N + 2, 0, none⟩))]
  let h := put h 6 #[.iface 225 (.pointer (some ⟨N + 3, 0, none⟩))]
  let h := put h 7 (rowOf Go.Pinned.utf8First).toArray
  let h := put h 8 (rowsOf Rows.laid_unicode_utf8_acceptRanges).toArray
  let h := put h 9 (rowOf Rows.laid_internal_strconv_uint64pow10).toArray
  let h := put h 10 (rowOf Rows.laid_math_bits_deBruijn32tab).toArray
  let h := put h 11 (rowOf Rows.laid_math_bits_deBruijn64tab).toArray
  { w0 with heap := h }
theorem laid_met (os : Os) (args : Array Value) : laidMet Tryz.prog Rows.parserOffsetsRow.laid ((laidWorld os).forCall (fun _ _ => 0) ⟨#[], args, []⟩).memory :=
  laidMet_of_run' 8 (by kernel_rfl) (by kernel_rfl)
end Go.Proofs.YtdckddkalgnlpaaGreatDoor
