/-
  What all the cards of the identity's laws share: from the listed variables to what the walks ask of memory; an identity as an argument; the last step of a law that returns true; a world that holds the listed variables.
-/
import Derived.Test.YtlhkkniebaganaaGreatDoorIdJ
import Derived.Test.YtlhkkniebaganaaGreatDoorTie
import Derived.Test.YtlhkkniebaganaaGreatDoorCards
import Derived.ProofKit
import Derived.OpenShut
import Derived.LaidLaws
import Derived.Below
import Derived.ChangeSame
import Derived.Deep.DeepHandedRow
import Derived.Deep.DeepWitnessRowRef
import Derived.Lib.LaidTab
import Derived.Lib.SmallJoins
import Derived.Test.YtlhkkniebaganaaGreatDoorTreeOpen
import Derived.Test.YtlhkkniebaganaaGreatDoorTreeCard
import Derived.Test.YtlhkkniebaganaaGreatDoorIdSetA
namespace Go.Proofs.YtlhkkniebaganaaGreatDoor
open Go.RowKit Go.ChangeShapes Go.WideShapes

theorem laidVars_at {P : Program} {W : World} : ∀ {l : List (String × DataW Unit)} {ps : List MemPlace}, DataW.LaidVars P W l ps → ∀ {n : String} {d : DataW Unit}, (n, d) ∈ l →
    ∃ g t cs fuel p, P.globalNamed n = some g ∧ (P.globals[g]?).map (·.type) = some t ∧ W.var? P n = some cs ∧ DataW.trod (fun _ => ()) P W 0 (fun _ => true) false fuel t cs.toList = some (d, p)
  | [], _, _, _, _, hm => by simp at hm
  | (n', d') :: r, ps, h, n, d, hm => by
    obtain ⟨g, t, cs, fuel, p, q, h1, h2, h3, h4, h5, _⟩ := h
    rcases List.mem_cons.1 hm with e | hm
    · cases e
      exact ⟨g, t, cs, fuel, p, h1, h2, h3, h4⟩
    · exact laidVars_at h5 hm

theorem laid_at {P : Program} {W : World} {l : List (String × DataW Unit)} (h : laidMet P l W) {n : String} {d : DataW Unit} (hm : (n, d) ∈ l) :
    ∃ g t cs fuel p, P.globalNamed n = some g ∧ (P.globals[g]?).map (·.type) = some t ∧ W.var? P n = some cs ∧ DataW.trod (fun _ => ()) P W 0 (fun _ => true) false fuel t cs.toList = some (d, p) := by
  obtain ⟨ps, h1, _⟩ := h
  exact laidVars_at h1 hm

theorem iface_at {W : World} {l : List (String × DataW Unit)} (h : laidMet Tryz.prog l W) {n : String} {g : Nat} {nm : String} {d : DataW Unit} {ti : TypeId} {ms : Array (String × TypeId)}
    (hm : (n, DataW.iface nm d) ∈ l) (hg : Tryz.prog.globalNamed n = some g) (hty : (Tryz.prog.globals[g]?).map (·.type) = some ti) (hi : Tryz.prog.underlying ti = some (.interface ms)) :
    ∃ te pe, W.cell? ⟨g, 0, none⟩ = some (.iface te pe) := by
  obtain ⟨g', t, cs, fuel, p, h1, h2, h3, h4⟩ := laid_at h hm
  obtain rfl : g = g' := Option.some.inj (hg.symm.trans h1)
  obtain rfl : t = ti := (Option.some.inj (hty.symm.trans h2)).symm
  obtain ⟨_, u, v, hcs2, _⟩ := iface_of_trod hi h4
  have hc0 := World.var?_cell hg h3 0
  have hcs3 : cs[0]? = some (.iface u v) := by
    rw [← Array.getElem?_toList, hcs2]; rfl
  exact ⟨u, v, by rw [hc0, hcs3]⟩

theorem tab_at {W : World} {l : List (String × DataW Unit)} (h : laidMet Tryz.prog l W) (hm : ("internal/strconv.uint64pow10", Lib.tabData .u64 Lib.pow10Tab) ∈ l) : Lib.TabIs Tryz.prog W "internal/strconv.uint64pow10" .u64 Lib.pow10Tab := by
  obtain ⟨g', t, cs, fuel, p, h1, h2, h3, h4⟩ := laid_at h hm
  have hg : Tryz.prog.globalNamed "internal/strconv.uint64pow10" = some 3 := by kernel_rfl
  have hty : (Tryz.prog.globals[3]?).map (·.type) = some 130 := by kernel_rfl
  obtain rfl : 3 = g' := Option.some.inj (hg.symm.trans h1)
  obtain rfl : t = 130 := (Option.some.inj (hty.symm.trans h2)).symm
  have hc := Lib.cells_of_tab (k := .u64) Tryz.underlying130 Tryz.underlying82 (by kernel_rfl) (by kernel_rfl) h4
  unfold Lib.TabIs
  rw [h3, ← hc]

theorem tab_eq : (Rows.laid_internal_strconv_uint64pow10 : DataW Unit) = Lib.tabData .u64 Lib.pow10Tab := by kernel_rfl
theorem idEnv_of {W : World} (h : laidMetH Tryz.prog Rows.identitySetsRow.laid W) : IdEnv W := by
  have hl : laidMet Tryz.prog Rows.identitySetsRow.laid W := h
  exact ⟨iface_at hl (g := 2) (List.mem_of_getElem? (i := 4) rfl) (by kernel_rfl) (by kernel_rfl) Tryz.underlying69, tab_at hl (by rw [← tab_eq]; exact List.mem_of_getElem? (i := 2) rfl)⟩

noncomputable def F0 : Field := (Tryz.prog.fieldsOf 24)[0]!
noncomputable def F1 : Field := (Tryz.prog.fieldsOf 24)[1]!
theorem idStruct : Tryz.prog.underlying 24 = some (.struct #[F0, F1]) := by kernel_rfl
theorem F0t : F0.type = 3 := by kernel_rfl
theorem F1t : F1.type = 3 := by kernel_rfl
theorem idOne : Go.Deep.oneCellFields Tryz.prog #[F0, F1] = true := by kernel_rfl
theorem idSize : Tryz.prog.cellsOf 24 = 2 := by kernel_rfl
set_option maxRecDepth 100000 in
/-- an identity that came in -/
theorem open_id {H : Type} {enc : TypeId × Value → H} {W : World} {r : Reach} {b0 : Nat} {base : Nat} {sp : Nat → Bool} {held : Bool} {v : Value} {d : DataW H} {p : List MemPlace} (hv : Value.okWide Tryz.prog W r b0 24 v) (h : DataW.Trod enc Tryz.prog W base sp held 24 v d p) :
    ∃ a : Id.I, v = idV a ∧ d = .agg [.lit (.int .i64 a.1), .lit (.int .i64 a.2)] ∧ p = [] ∧ (Lit.int .i64 a.1).wf = true ∧ (Lit.int .i64 a.2).wf = true := by
  obtain ⟨v0, v1, y0, y1, n, rfl, rfl, rfl, h0, h1⟩ := Go.Joins.open_agg2 (P := Tryz.prog) (t := 24) (f0 := F0) (f1 := F1) (v := v) (d := d) (p := p) idStruct idOne idSize hv h
  rw [F0t] at h0
  rw [F1t] at h1
  obtain ⟨a, ha, rfl, wa⟩ := DataW.trod_int Tryz.underlying3 h0
  obtain ⟨b, hb, rfl, wb⟩ := DataW.trod_int Tryz.underlying3 h1
  simp only [List.cons.injEq, and_true] at ha hb
  exact ⟨(a, b), by rw [ha, hb]; rfl, rfl, rfl, wa, wb⟩
set_option maxRecDepth 100000 in
theorem shut_id {H : Type} {enc : TypeId × Value → H} {W : World} {base : Nat} {sp : Nat → Bool} {held : Bool} {a : Id.I} (h : (Lit.int .i64 a.1).wf = true ∧ (Lit.int .i64 a.2).wf = true) :
    DataW.Trod enc Tryz.prog W base sp held 24 (idV a) (.agg [.lit (.int .i64 a.1), .lit (.int .i64 a.2)]) [] :=
  Go.Joins.shut_agg2 (P := Tryz.prog) (t := 24) (f0 := F0) (f1 := F1) (y0 := (.lit (.int .i64 a.1), [])) (y1 := (.lit (.int .i64 a.2), [])) idStruct idOne idSize ⟨1, by rw [F0t]; exact trod_int_mk 0 Tryz.underlying3 h.1⟩ ⟨1, by rw [F1t]; exact trod_int_mk 0 Tryz.underlying3 h.2⟩

section
variable {H : Type} {enc : TypeId × Value → H} {P : Program}
/-- The row's last step, of a call that has turned nothing that was there. -/
theorem post_kept {f : Func} {s : ChangeSpec} {apart fresh handsOn again : Bool} {W W' : World} {args : Array Value} {v : Value} {ds gs : List (DataW H)} {before pa pv : List MemPlace}
    (hW : DataW.Whole enc P f.params.toList s.vars apart W args.toList ds gs before) (hb : Below W.heap.size W W')
    (hres : ∀ (b : Nat) (sp : Nat → Bool) (hd : Bool), DataW.TrodAll enc P W' b sp hd f.resultTypes.toList (v.resultList f.resultTypes.size) (s.fn H (ds ++ gs)).results [])
    (hargs : ∀ sp : Nat → Bool, (∀ p ∈ before, sp p.block = true) → DataW.TrodAll enc P W' 0 sp true f.params.toList args.toList (s.fn H (ds ++ gs)).args pa)
    (hvars : ∀ sp : Nat → Bool, (∀ p ∈ before, sp p.block = true) → DataW.TrodVars enc P W' sp s.vars (s.fn H (ds ++ gs)).vars pv)
    (hps : before = pa ++ pv)
    (hok : ∀ (j : Nat) (t : TypeId) (r : Value), f.resultTypes[j]? = some t → (v.resultList f.resultTypes.size)[j]? = some r → Value.okWide P W' .any 0 t r) :
    s.post enc P f apart fresh handsOn again W args v W' := by
  subst hps
  have old : ∀ p ∈ pa ++ pv, decide (p.block < W.heap.size) = true := fun p hp => decide_eq_true (hW.lt p hp)
  refine ⟨ds, gs, pa ++ pv, [], pa, pv, hW, hres _ _ _, hargs (fun b => decide (b < W.heap.size)) old, hvars (fun b => decide (b < W.heap.size)) old, World.keptBut_mono (fun p hp => ⟨hp, .inr (List.mem_append.1 hp)⟩) (hb.frame (· ∈ pa ++ pv)), fun _ => ⟨hok, ?_⟩⟩
  obtain ⟨_, _, _, _, _, hz, hn⟩ := hW
  refine ⟨_, _, ([] ++ pa) ++ pv, ⟨[] ++ pa, pv, trodAll_append (hargs _ (fun _ _ => rfl)) (hres _ _ _), hvars _ (fun _ _ => rfl), rfl, fun b off hp => ?_, fun ha => ?_⟩, fun p hp _ => by simpa using hp⟩
  · have hin : MemPlace.cell b off ∈ pa ++ pv := by simpa using hp
    rw [hb.frozen (of_decide_eq_true (old _ hin))]
    exact hz b off hin
  · simpa using hn ha
end

theorem own : ownKnob Tryz.prog.godebug = none := by kernel_rfl

/-- integers out of a datum that is a row of them -/
def rowOf : DataW Unit → List Value
  | .agg l => l.map fun | .lit (.int k n) => .int k n | _ => .nilIface
  | _ => []
def rowsOf : DataW Unit → List Value
  | .agg l => l.flatMap rowOf
  | _ => []

/-- A world for the witness: the settled one, the listed variables holding what their initialisers lay. -/
noncomputable def laidWorld (os : Os) : World :=
  let N := (World.settled Tryz.prog os).heap.size
  let w0 := World.holding Tryz.prog os ⟨#[
    .cells #[.string ⟨#[105, 110, 118, 97, 108, 105, 100, 32, 115, 121, 110, 116, 97, 120]⟩] 142,
    .cells #[.string ⟨#[118, 97, 108, 117, 101, 32, 111, 117, 116, 32, 111, 102, 32, 114, 97, 110, 103, 101]⟩] 142], #[], []⟩
  let put (h : Array Obj) (g : Nat) (cs : Array Value) : Array Obj := h.modify g fun
    | .cells _ t frozen => .cells cs t frozen
    | o => o
  let h := put w0.heap 1 #[.iface 140 (.pointer (some ⟨N, 0, none⟩))]
  let h := put h 2 #[.iface 140 (.pointer (some ⟨N + 1, 0, none⟩))]
  let h := put h 4 (rowOf Go.Pinned.utf8First).toArray
  let h := put h 5 (rowsOf Rows.laid_unicode_utf8_acceptRanges).toArray
  let h := put h 3 (rowOf Rows.laid_internal_strconv_uint64pow10).toArray
  let h := put h 6 (rowOf Rows.laid_math_bits_deBruijn32tab).toArray
  let h := put h 7 (rowOf Rows.laid_math_bits_deBruijn64tab).toArray
  { w0 with heap := h }

theorem laid_met (os : Os) (args : Array Value) : laidMet Tryz.prog Rows.identitySetsRow.laid ((laidWorld os).forCall (fun _ _ => 0) ⟨#[], args, []⟩).memory :=
  laidMet_of_run' 8 (by kernel_rfl) (by kernel_rfl)
theorem laidOut : laidOutB Tryz.prog = true := by kernel_rfl
theorem cells_slice {a : Option Addr} {n c : Nat} : (Value.slice a n c).cells.toList = [.slice a n c] := rfl
set_option maxRecDepth 100000 in
/-- a list of identities that came in -/
theorem open_ids {H : Type} {enc : TypeId × Value → H} {W : World} {r : Reach} {b0 : Nat} {base : Nat} {sp : Nat → Bool} {held : Bool} {v : Value} {d : DataW H} {p : List MemPlace} (hv : Value.okWide Tryz.prog W r b0 22 v) (h : DataW.Trod enc Tryz.prog W base sp held 22 v d p) :
    ∃ l : List Id.I, IdsV W v l := by
  obtain ⟨a, len, cap, rfl⟩ := okWide_slice Tryz.underlying22 hv
  obtain ⟨fuel, hf⟩ := h
  rw [cells_slice] at hf
  rcases elems_of Tryz.underlying22 idSize hf with h0 | ⟨a', len', cap', n, rfl, h0, hl, hm, hel⟩
  · cases h0; exact ⟨[], .inl ⟨rfl, _, _, rfl⟩⟩
  · cases h0
    haveI : Inhabited Id.I := ⟨(0, 0)⟩
    obtain ⟨F, hF, hr⟩ := row_of (w := W) (a := a') (len := len) (k := 2) (R := fun b o (x : Id.I) => W.cell? ⟨b, o, none⟩ = some (.int .i64 x.1) ∧ W.cell? ⟨b, o + 1, none⟩ = some (.int .i64 x.2)) (by omega) (fun i hi => by
      obtain ⟨cs', y, hcl, hat, ht'⟩ := hel i hi
      obtain ⟨n2, hn, hl2, hf⟩ := fields_one idStruct idOne (by rw [idSize]; rfl) ht'
      obtain ⟨u0, y0, c0, t0⟩ := hf 0 F0 rfl
      obtain ⟨u1, y1, c1, t1⟩ := hf 1 F1 rfl
      rw [F0t] at t0; rw [F1t] at t1
      obtain ⟨k, k1, _, _⟩ := DataW.trod_int Tryz.underlying3 t0
      obtain ⟨o, o1, _, _⟩ := DataW.trod_int Tryz.underlying3 t1
      cases k1; cases o1
      exact ⟨cs', hcl, hat, (k, o), fun b o hc => ⟨hc 0 _ (by omega) c0, hc 1 _ (by omega) c1⟩⟩)
    by_cases h0 : F = []
    · subst h0
      have : len = 0 := by rw [← hF]; rfl
      subst this
      exact ⟨[], .inl ⟨rfl, _, _, rfl⟩⟩
    · obtain ⟨z, hz⟩ : ∃ z, F[0]? = some z := ⟨_, List.getElem?_eq_getElem (by cases F with | nil => exact absurd rfl h0 | cons => simp)⟩
      obtain ⟨g1, g2, _⟩ := hr 0 z hz
      refine ⟨F, .inr ⟨h0, a'.block, a'.off, cap, by rw [hF, ← g1], g2, fun j x hj => ?_⟩⟩
      exact (hr j x hj).2.2
end Go.Proofs.YtlhkkniebaganaaGreatDoor
