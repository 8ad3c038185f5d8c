/-
  What stands in memory while the reference collects faults; its at, walked.
-/
import Derived.Test.YtdafdbjdnebnfaaGreatDoorCkRefStmts
import Derived.Test.YtdafdbjdnebnfaaGreatDoorCkState
import Derived.Test.YtdafdbjdnebnfaaGreatDoorCkFaults
namespace Go.Proofs.YtdafdbjdnebnfaaGreatDoor
open Go.RowKit Go.Maps

def fCells (x : Ck.F) : List Value := [.int .i64 (x.line : Int), .int .i64 (x.cls : Int), .int .i64 (idxI x.mth)]
theorem fCells_len (x : Ck.F) : (fCells x).length = 3 := rfl
theorem fCells_one (l : List Ck.F) : ∀ a ∈ l, ∀ u ∈ fCells a, u.oneCell' = true := by
  intro a _ u hu
  simp only [fCells, List.mem_cons, List.not_mem_nil, or_false] at hu
  rcases hu with rfl | rfl | rfl <;> rfl
theorem fRow_one (l : List Ck.F) : ∀ u ∈ flatV fCells l, u.oneCell' = true := by
  intro u hu
  unfold flatV at hu
  obtain ⟨a, ha, hu⟩ := List.mem_flatMap.1 hu
  exact fCells_one l a ha u hu
theorem frInfo : (Tryz.prog.info? 62).map (fun i => (i.zero, i.size, i.bytes)) = some (some (.agg #[.int .i64 0, .int .i64 0, .int .i64 0]), 3, 24) := by kernel_rfl
def atRow (i : Nat) (m : Option Nat) (ts : List Nat) : List Ck.F := ts.map fun t => ⟨t, i, m⟩
def AtPost (i : Nat) (m : Option Nat) (f : Nat → Bool) (w : World) (e : Ending) (w' : World) : Prop :=
  ∃ v, e = .returned v ∧ w'.ownsRow w.heap.size 62 3 v (atRow i m (Ck.found f)).length (flatV fCells (atRow i m (Ck.found f))) ∧ Below w.heap.size w w'
theorem atRow_len (i : Nat) (m : Option Nat) (f : Nat → Bool) (k : Nat) : (atRow i m (foundTo f k)).length ≤ k := by
  unfold atRow; rw [List.length_map]; exact foundTo_len f k

set_option maxRecDepth 100000 in
set_option maxHeartbeats 2000000 in
theorem atR_any (FB : Nat) (f : Nat → Bool) (i : Nat) (m : Option Nat) (mz : Int) (hm : mz = idxI m) (w : World) (hF : w.heap[FB]? = some (.cells (foundCells f) 4 (0, 0))) :
    Calls Tryz.prog 62 #[.slice (some ⟨FB, 0, none⟩) 13 13, .int .i64 i, .int .i64 mz] w (AtPost i m f w) := by
  obtain ⟨i0, hi0, hz0, hz1, hz2⟩ := info_parts frInfo
  have HF := Lib.hid hF
  have HM := Lib.hid hm
  have hbe := below_box w (.cells #[] 62)
  have HBE := Lib.hid hbe
  have HO0 := Lib.hid (own_empty w 62 3)
  clear hF hm hbe
  go_enter Tryz.func62, Tryz.ntmps62
  go_wp2
  go_loopg [7, 8] 13 (fun g s7 s8 wr => ∃ t : Nat, s8 = .int .i64 t ∧ t ≤ 13 ∧ g = 13 - t ∧ Hid (wr.ownsRow w.heap.size 62 3 s7 (atRow i m (foundTo f t)).length (flatV fCells (atRow i m (foundTo f t)))) ∧ Hid (Below w.heap.size w wr))
  case atStart => exact ⟨0, rfl, Nat.zero_le _, rfl, HO0, HBE⟩
  case round =>
    obtain ⟨t, rfl, ht, rfl, HO, HBR⟩ := hrel
    clear HO0 HBE
    by_cases hlt : t < 13
    · have hc := cell_keep' HBR.out (found_cell HF.out hlt)
      have hal := atRow_len i m f t
      have hb3 : (t : Int) < 13 := by omega
      cases hf : f t
      · rw [hf] at hc
        have hn := Lib.hid (foundTo_no hf)
        clear hf
        go_wp2_with fail
        go_roundg (13 - (t + 1))
        case measure => omega
        case rel => exact ⟨t + 1, by go_num, by omega, rfl, by rw [hn.out]; exact HO, HBR⟩
      · rw [hf] at hc
        have hn := Lib.hid (foundTo_yes hf)
        clear hf
        have HSRC := Lib.hid (SrcAt.lit (f := fCells) wr ⟨t, i, m⟩ 62 #[.int .i64 t, .int .i64 i, .int .i64 mz] (by rw [HM.out]; rfl) 1)
        obtain ⟨ln, hln⟩ : ∃ q, (atRow i m (foundTo f t)).length = q := ⟨_, rfl⟩
        have HLN := Lib.hid hln
        rw [hln] at hal
        clear hln
        go_wp2_with (at_builtin; refine wpList_append_src fCells 3 fCells_len rfl _ _ 58 rfl w.heap.size 62 i0 (.agg #[.int .i64 0, .int .i64 0, .int .i64 0]) 24 Tryz.underlying58 hi0 hz0 hz1 hz2 rfl (by decide) _ _ (atRow i m (foundTo f t)) [⟨t, i, m⟩] rfl rfl (HO.out.alloc _) HSRC.out (fCells_one _) (by rw [HLN.out]; unfold maxLen; simp; omega) (by rw [HLN.out]; simp; omega) (by have := HBR.out.size; simp <;> omega) ?_; intro v7 w7 ho7 hg7)
        go_roundg (13 - (t + 1))
        case measure => omega
        case rel =>
          refine ⟨t + 1, by go_num, by omega, rfl, ?_, Lib.hid ((HBR.out.alloc HBR.out.size _).grown hg7 (by have := HBR.out.size; simp <;> omega) fun q hq => (own_ge HO.out hq).1)⟩
          have e : atRow i m (foundTo f (t + 1)) = atRow i m (foundTo f t) ++ [⟨t, i, m⟩] := by rw [hn.out]; unfold atRow; rw [List.map_append]; rfl
          rw [e]
          exact Lib.hid ho7
    · obtain rfl : t = 13 := by omega
      go_wp2_with fail
      go_ret
      exact ⟨_, rfl, HO.out, HBR.out⟩

/-- a block that is neither a row of the reference's faults nor a row of bools -/
def GoodG (o : Obj) : Prop := (∀ cs r, o ≠ .cells cs 62 r) ∧ (∀ cs r, o ≠ .cells cs 4 r)
theorem goodG_of (cs : Array Value) (t : TypeId) (r : Nat × Nat) (h1 : t ≠ 62) (h2 : t ≠ 4) : GoodG (.cells cs t r) :=
  ⟨fun cs' r' h => by cases h; exact h1 rfl, fun cs' r' h => by cases h; exact h2 rfl⟩
/-- the state: rows out, kept blocks L -/
structure GS0 (w : World) (L : List (Nat × Obj)) (out : Value) (l : List Ck.F) (W : World) : Prop where
  own : W.ownsRow w.heap.size 62 3 out l.length (flatV fCells l)
  below : Below w.heap.size w W
  kept : ∀ x ∈ L, W.heap[x.1]? = some x.2 ∧ GoodG x.2
/-- .. and a row of faults in block FB -/
structure GSt (w : World) (L : List (Nat × Obj)) (FB : Nat) (f : Nat → Bool) (out : Value) (l : List Ck.F) (W : World) : Prop where
  st : GS0 w L out l W
  fnd : W.heap[FB]? = some (.cells (foundCells f) 4 (0, 0))
  hF : w.heap.size ≤ FB
section
variable {w : World} {L : List (Nat × Obj)} {FB : Nat} {f : Nat → Bool} {out : Value} {l : List Ck.F} {W W' : World}
theorem GS0.keep (h : GS0 w L out l W) (hb : Below W.heap.size W W') : GS0 w L out l W' :=
  ⟨own_below h.own hb, below_next h.below hb, fun x hx => ⟨(hb.block x.1 (lt_of_block (h.kept x hx).1)).trans (h.kept x hx).1, (h.kept x hx).2⟩⟩
theorem GS0.add (h : GS0 w L out l W) {b : Nat} {o : Obj} (hb : W.heap[b]? = some o) (hg : GoodG o) : GS0 w ((b, o) :: L) out l W :=
  ⟨h.own, h.below, fun x hx => by rcases List.mem_cons.1 hx with rfl | hx; exact ⟨hb, hg⟩; exact h.kept x hx⟩
theorem GS0.less {K : List (Nat × Obj)} (h : GS0 w L out l W) (hK : ∀ x ∈ K, x ∈ L) : GS0 w K out l W := ⟨h.own, h.below, fun x hx => h.kept x (hK x hx)⟩
theorem GS0.box (h : GS0 w L out l W) (cs : Array Value) (t : TypeId) (h1 : t ≠ 62) (h2 : t ≠ 4) : GS0 w ((W.heap.size, .cells cs t) :: L) out l (W.alloc (.cells cs t)) :=
  (h.keep (below_box _ _)).add (MapKept.heap_alloc W _).1 (goodG_of _ _ _ h1 h2)
theorem GS0.cell (h : GS0 w L out l W) {b j : Nat} {u : Value} {cs : Array Value} {t : TypeId} (hx : (b, Obj.cells cs t) ∈ L) (hj : cs[j]? = some u) : W.cell? ⟨b, j, none⟩ = some u := blk_cell (h.kept _ hx).1 hj
theorem GS0.made (h : GS0 w L out l W) (f : Nat → Bool) : GSt w L W.heap.size f out l (W.alloc (.cells (foundCells f) 4)) :=
  ⟨h.keep (below_box _ _), (MapKept.heap_alloc W _).1, h.below.size⟩
theorem GSt.keep (h : GSt w L FB f out l W) (hb : Below W.heap.size W W') : GSt w L FB f out l W' := ⟨h.st.keep hb, (hb.block FB (lt_of_block h.fnd)).trans h.fnd, h.hF⟩
theorem GSt.grow (h : GSt w L FB f out l W) {g : Nat → Bool} (hp : W'.heap[FB]? = some (.cells (foundCells g) 4 (0, 0))) (hg : W.grownBy W' (some FB)) : GSt w L FB g out l W' := by
  refine ⟨⟨h.st.own.kept hg ?_, h.st.below.grown hg h.st.below.size (fun q hq => by cases hq; exact h.hF), fun x hx => ⟨(hg.block x.1 (lt_of_block (h.st.kept x hx).1) (fun e => ?_)).trans (h.st.kept x hx).1, (h.st.kept x hx).2⟩⟩, hp, h.hF⟩
  · cases hq : out.ownBlock with
    | none => exact .inl rfl
    | some q =>
      right
      intro e
      cases e
      obtain ⟨_, cur, hc⟩ := own_ge h.st.own hq
      have := hc.symm.trans h.fnd
      simp only [Option.some.injEq, Obj.cells.injEq] at this
      exact absurd this.2.1 (by decide)
  · cases e
    exact (h.st.kept x hx).2.2 _ _ (Option.some.inj ((h.st.kept x hx).1.symm.trans h.fnd))
theorem GSt.set (h : GSt w L FB f out l W) (b : Bool) {k : Nat} (hk : k < 13) : GSt w L FB (fun t => if t = k then b else f t) out l (W.setCell ⟨FB, k, none⟩ (.bool b)) := h.grow (found_set h.fnd b hk) (grown_setCell _ _ _ _)
theorem GSt.fcell (h : GSt w L FB f out l W) {k : Nat} (hk : k < 13) : W.cell? ⟨FB, k, none⟩ = some (.bool (f k)) := found_cell h.fnd hk
theorem GSt.free (h : GSt w L FB f out l W) (k : Nat) : W.frozen? ⟨FB, k, none⟩ = false := found_free h.fnd k
theorem GSt.congr (h : GSt w L FB f out l W) {g : Nat → Bool} (he : ∀ t, f t = g t) : GSt w L FB g out l W := by
  have : f = g := funext he
  rw [← this]; exact h
theorem GSt.add (h : GSt w L FB f out l W) {b : Nat} {o : Obj} (hb : W.heap[b]? = some o) (hg : GoodG o) : GSt w ((b, o) :: L) FB f out l W := ⟨h.st.add hb hg, h.fnd, h.hF⟩
theorem GS0.app (h : GS0 w L out l W) {v' : Value} {r : List Ck.F} {n : Nat} (hn : n = l.length + r.length) (ho : W'.ownsRow w.heap.size 62 3 v' n (flatV fCells l ++ flatV fCells r)) (hg : W.grownBy W' out.ownBlock) : GS0 w L v' (l ++ r) W' := by
  refine ⟨?_, h.below.grown hg h.below.size (fun q hq => (own_ge h.own hq).1), fun x hx => ⟨(hg.block x.1 (lt_of_block (h.kept x hx).1) (fun e => ?_)).trans (h.kept x hx).1, (h.kept x hx).2⟩⟩
  · subst hn
    rw [List.length_append, flatV_append]
    exact ho
  · obtain ⟨_, cur, hc⟩ := own_ge h.own e.symm
    exact (h.kept x hx).2.1 _ _ (Option.some.inj ((h.kept x hx).1.symm.trans hc))
end
theorem faultsM_snoc (cs : List Tr.C) (i : Nat) (c : Tr.C) (m : Tr.M) : ∀ (l : List Tr.M) (k : Nat), Ck.faultsM cs i c (l ++ [m]) k = Ck.faultsM cs i c l k ++ atRow i (some (k + l.length)) (Ck.found (Ck.faultM cs c (k + l.length) m))
  | [], k => by simp [Ck.faultsM, atRow]
  | x :: r, k => by
    rw [List.cons_append, Ck.faultsM, Ck.faultsM, faultsM_snoc cs i c m r, List.append_assoc, List.length_cons, show k + 1 + r.length = k + (r.length + 1) by omega]
theorem faultsC_snoc (cs : List Tr.C) (c : Tr.C) : ∀ (l : List Tr.C) (i : Nat), Ck.faultsC cs (l ++ [c]) i = Ck.faultsC cs l i ++ (atRow (i + l.length) none (Ck.found (Ck.faultC cs (i + l.length) c)) ++ Ck.faultsM cs (i + l.length) c c.methods 0)
  | [], i => by simp [Ck.faultsC, atRow]
  | x :: r, i => by
    rw [List.cons_append, Ck.faultsC, Ck.faultsC, faultsC_snoc cs c r, List.length_cons, show i + 1 + r.length = i + (r.length + 1) by omega]
    simp only [List.append_assoc]
theorem faultsM_len (cs : List Tr.C) (i : Nat) (c : Tr.C) (l : List Tr.M) (k : Nat) : (Ck.faultsM cs i c l k).length ≤ 13 * l.length := by
  have h := congrArg List.length (Ck.rowsM_lines cs i c l k)
  rw [List.length_map, List.length_map] at h
  rw [← h]
  exact Ck.rowsM_len cs c l k
theorem faultsC_len (cs : List Tr.C) (l : List Tr.C) (i : Nat) : (Ck.faultsC cs l i).length ≤ 13 * Ck.cnt l := by
  have h := congrArg List.length (Ck.rowsC_lines cs l i)
  rw [List.length_map, List.length_map] at h
  rw [← h]
  exact Ck.rowsC_len cs l i
theorem atRow_found (i : Nat) (m : Option Nat) (f : Nat → Bool) : (atRow i m (Ck.found f)).length ≤ 13 := by
  unfold atRow; rw [List.length_map]; exact Ck.found_len f
end Go.Proofs.YtdafdbjdnebnfaaGreatDoor
