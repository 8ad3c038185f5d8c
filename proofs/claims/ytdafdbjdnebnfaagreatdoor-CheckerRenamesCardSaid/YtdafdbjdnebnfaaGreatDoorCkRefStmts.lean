/-
  The reference's stmts, walked.
-/
import Derived.Test.YtdafdbjdnebnfaaGreatDoorCkRefExpr
import Derived.Test.YtdafdbjdnebnfaaGreatDoorCkOwn
import Derived.Test.YtdafdbjdnebnfaaGreatDoorCkB
namespace Go.Proofs.YtdafdbjdnebnfaaGreatDoor
open Go.RowKit Go.Maps

def strC (s : ByteArray) : List Value := [.string s]
theorem strC_len (s : ByteArray) : (strC s).length = 1 := rfl
theorem flatV_str (l : List ByteArray) : flatV strC l = strCellsB l := by
  induction l with
  | nil => rfl
  | cons x r ih => rw [flatV_cons, ih]; rfl
theorem strC_one (l : List ByteArray) : ∀ a ∈ l, ∀ u ∈ strC a, u.oneCell' = true := by
  intro a _ u hu
  simp only [strC, List.mem_cons, List.not_mem_nil, or_false] at hu
  subst hu; rfl
theorem SlStr.src {w : World} {v : Value} {l : List ByteArray} (h : SlStr w v l) : SrcAt w strC v l := by
  obtain ⟨p, c, rfl, hl, hn, hx⟩ := h
  cases l with
  | nil => exact .inl ⟨rfl, p, c, rfl⟩
  | cons x r =>
    obtain ⟨_, b, o, rfl, _⟩ := hx 0 x rfl
    refine .inr ⟨b, o, c, rfl, fun j u hj => ?_⟩
    rw [flatV_str] at hj
    unfold strCellsB at hj
    rw [List.getElem?_map, Option.map_eq_some_iff] at hj
    obtain ⟨s, hs, rfl⟩ := hj
    obtain ⟨_, b2, o2, e, _, hc⟩ := hx j s hs
    cases e
    exact hc
/-- what stands at the head of a round of stmts: the finder, the variables in a row of the call's own -/
structure RHd (w : World) (P FB : Nat) (cv : Value) (c : Tr.C) (fv mv hv : Value) (vars : List ByteArray) (f : Nat → Bool) (W : World) : Prop where
  find : FindAt W P FB cv c fv mv f
  own : W.ownsRow w.heap.size 9 1 hv vars.length (strCellsB vars)
  sz : ∀ s ∈ vars, s.size ≤ maxLen
  grown : w.grownBy W (some FB)
  lP : P < w.heap.size
  lF : FB < w.heap.size
/-- .. and a statement's cells in block bx -/
structure RSS (w : World) (P FB bx : Nat) (cv : Value) (c : Tr.C) (fv mv hv : Value) (vars : List ByteArray) (cells : Array Value) (f : Nat → Bool) (W : World) : Prop where
  hd : RHd w P FB cv c fv mv hv vars f W
  blk : W.heap[bx]? = some (.cells cells 75 (0, 0))
section
variable {w : World} {P FB bx : Nat} {cv : Value} {c : Tr.C} {fv mv hv : Value} {vars : List ByteArray} {cells : Array Value} {f : Nat → Bool} {W W' : World}
theorem RHd.vs (h : RHd w P FB cv c fv mv hv vars f W) : SlStr W hv vars := slStr_own h.own h.sz
theorem RHd.next (h : RHd w P FB cv c fv mv hv vars f W) {g : Nat → Bool} (hp : FindAt W' P FB cv c fv mv g) (hg : W.grownBy W' (some FB)) : RHd w P FB cv c fv mv hv vars g W' :=
  ⟨hp, h.own.kept hg (by
    cases hq : hv.ownBlock with
    | none => exact .inl rfl
    | some q => right; intro e; have := (own_ge h.own hq).1; have := h.lF; cases e; omega), h.sz, grown_trans h.grown hg, h.lP, h.lF⟩
theorem RHd.keep (h : RHd w P FB cv c fv mv hv vars f W) (hb : Below W.heap.size W W') : RHd w P FB cv c fv mv hv vars f W' := h.next (h.find.keep hb) (grown_of_below hb)
theorem RHd.congr (h : RHd w P FB cv c fv mv hv vars f W) {g : Nat → Bool} (he : ∀ t, f t = g t) : RHd w P FB cv c fv mv hv vars g W := ⟨h.find.congr he, h.own, h.sz, h.grown, h.lP, h.lF⟩
theorem RHd.app (h : RHd w P FB cv c fv mv hv vars f W) {nm : ByteArray} (hn : nm.size ≤ maxLen) {v' : Value} {m : Nat} (hm : m = vars.length + 1) (ho : W'.ownsRow w.heap.size 9 1 v' m (strCellsB vars ++ [.string nm])) (hg : W.grownBy W' hv.ownBlock) : RHd w P FB cv c fv mv v' (vars ++ [nm]) f W' := by
  have hge : ∀ k, k < w.heap.size → some k ≠ hv.ownBlock := fun k hk e => by have := (own_ge h.own e.symm).1; omega
  refine ⟨⟨(hg.block P (lt_of_block h.find.fin) (hge P h.lP)).trans h.find.fin, (hg.block FB (lt_of_block h.find.fnd) (hge FB h.lF)).trans h.find.fnd⟩, ?_, fun s hs => ?_, ⟨hg.os.trans h.grown.os, hg.tape.trans h.grown.tape, hg.output.trans h.grown.output, Nat.le_trans h.grown.size hg.size, fun k hk hkP => ?_⟩, h.lP, h.lF⟩
  · subst hm
    rw [List.length_append]
    unfold strCellsB at ho ⊢
    rw [List.map_append]
    exact ho
  · rcases List.mem_append.1 hs with hs | hs
    · exact h.sz s hs
    · obtain rfl := List.mem_singleton.1 hs; exact hn
  · rw [hg.block k (Nat.lt_of_lt_of_le hk h.grown.size) (hge k hk), h.grown.block k hk hkP]
theorem RHd.box (h : RHd w P FB cv c fv mv hv vars f W) (cells : Array Value) : RSS w P FB W.heap.size cv c fv mv hv vars cells f (W.alloc (.cells cells 75)) :=
  ⟨h.keep (below_box _ _), (MapKept.heap_alloc W _).1⟩
theorem RSS.neF (h : RSS w P FB bx cv c fv mv hv vars cells f W) : bx ≠ FB := by
  rintro rfl
  have := h.blk.symm.trans h.hd.find.fnd
  simp only [Option.some.injEq, Obj.cells.injEq] at this
  exact absurd this.2.1 (by decide)
theorem RSS.next (h : RSS w P FB bx cv c fv mv hv vars cells f W) {g : Nat → Bool} (hp : FindAt W' P FB cv c fv mv g) (hg : W.grownBy W' (some FB)) : RSS w P FB bx cv c fv mv hv vars cells g W' :=
  ⟨h.hd.next hp hg, (hg.block bx (lt_of_block h.blk) (fun e => h.neF (Option.some.inj e))).trans h.blk⟩
theorem RSS.keep (h : RSS w P FB bx cv c fv mv hv vars cells f W) (hb : Below W.heap.size W W') : RSS w P FB bx cv c fv mv hv vars cells f W' := h.next (h.hd.find.keep hb) (grown_of_below hb)
theorem RSS.drew (h : RSS w P FB bx cv c fv mv hv vars cells f W) : RSS w P FB bx cv c fv mv hv vars cells f W.drew := h.keep (Below.refl _ _).drew
theorem RSS.drewN (h : RSS w P FB bx cv c fv mv hv vars cells f W) (q : Nat) : RSS w P FB bx cv c fv mv hv vars cells f (W.drewN q) := h.keep (quietB (Below.refl _ _))
theorem RSS.congr (h : RSS w P FB bx cv c fv mv hv vars cells f W) {g : Nat → Bool} (he : ∀ t, f t = g t) : RSS w P FB bx cv c fv mv hv vars cells g W := ⟨h.hd.congr he, h.blk⟩
theorem RSS.set (h : RSS w P FB bx cv c fv mv hv vars cells f W) {k : Nat} (hk : k < 13) : RSS w P FB bx cv c fv mv hv vars cells (fun t => f t || (t == k)) (W.setCell ⟨FB, k, none⟩ (.bool true)) := h.next (h.hd.find.set hk) (grown_setCell _ _ _ _)
theorem RSS.app (h : RSS w P FB bx cv c fv mv hv vars cells f W) {nm : ByteArray} (hn : nm.size ≤ maxLen) {v' : Value} {m : Nat} (hm : m = vars.length + 1) (ho : W'.ownsRow w.heap.size 9 1 v' m (strCellsB vars ++ [.string nm])) (hg : W.grownBy W' hv.ownBlock) : RSS w P FB bx cv c fv mv v' (vars ++ [nm]) cells f W' := by
  refine ⟨h.hd.app hn hm ho hg, (hg.block bx (lt_of_block h.blk) (fun e => ?_)).trans h.blk⟩
  obtain ⟨_, cur, hc⟩ := own_ge h.hd.own e.symm
  have := h.blk.symm.trans hc
  simp only [Option.some.injEq, Obj.cells.injEq] at this
  exact absurd this.2.1 (by decide)
theorem RSS.box (h : RSS w P FB bx cv c fv mv hv vars cells f W) (j : Nat) (u : Value) (hj : cells[j]? = some u) : W.cell? ⟨bx, j, none⟩ = some u := blk_cell h.blk hj
theorem RSS.fcell (h : RSS w P FB bx cv c fv mv hv vars cells f W) {k : Nat} (hk : k < 13) : W.cell? ⟨FB, k, none⟩ = some (.bool (f k)) := found_cell h.hd.find.fnd hk
theorem RSS.free (h : RSS w P FB bx cv c fv mv hv vars cells f W) (k : Nat) : W.frozen? ⟨FB, k, none⟩ = false := found_free h.hd.find.fnd k
end
theorem rss_keep6 {a0 a1 a2 a3 a4 : Value} {q0 q1 q2 q3 q4 : Addr} {w : World} {P FB bx : Nat} {cv : Value} {c : Tr.C} {fv mv hv : Value} {vars : List ByteArray} {cells : Array Value} {f : Nat → Bool} {W W' : World} (h : W.cell? q0 = some a0 ∧ W.cell? q1 = some a1 ∧ W.cell? q2 = some a2 ∧ W.cell? q3 = some a3 ∧ W.cell? q4 = some a4 ∧ Hid (RSS w P FB bx cv c fv mv hv vars cells f W)) (hb : Below W.heap.size W W') :
    W'.cell? q0 = some a0 ∧ W'.cell? q1 = some a1 ∧ W'.cell? q2 = some a2 ∧ W'.cell? q3 = some a3 ∧ W'.cell? q4 = some a4 ∧ Hid (RSS w P FB bx cv c fv mv hv vars cells f W') :=
  ⟨(grown_of_below (r := none) hb).cell h.1 (by simp), (grown_of_below (r := none) hb).cell h.2.1 (by simp), (grown_of_below (r := none) hb).cell h.2.2.1 (by simp), (grown_of_below (r := none) hb).cell h.2.2.2.1 (by simp), (grown_of_below (r := none) hb).cell h.2.2.2.2.1 (by simp), h.2.2.2.2.2.out.keep hb⟩
theorem rss_of6 {p0 p1 p2 p3 p4 : Prop} {w : World} {P FB bx : Nat} {cv : Value} {c : Tr.C} {fv mv hv : Value} {vars : List ByteArray} {cells : Array Value} {f : Nat → Bool} {W : World} (h : p0 ∧ p1 ∧ p2 ∧ p3 ∧ p4 ∧ Hid (RSS w P FB bx cv c fv mv hv vars cells f W)) : RSS w P FB bx cv c fv mv hv vars cells f W := h.2.2.2.2.2.out
theorem rss_below6 {p0 p1 p2 p3 p4 : Prop} {w0 w : World} {P FB bx : Nat} {cv : Value} {c : Tr.C} {fv mv hv : Value} {vars : List ByteArray} {cells : Array Value} {f : Nat → Bool} {W : World} (hb : Below w0.heap.size w0 w) (hP : w0.heap.size ≤ FB) (h : p0 ∧ p1 ∧ p2 ∧ p3 ∧ p4 ∧ Hid (RSS w P FB bx cv c fv mv hv vars cells f W)) : Below w0.heap.size w0 W := grown_below hb h.2.2.2.2.2.out.hd.grown hP
theorem rhd_start {w : World} {P FB : Nat} {cv : Value} {c : Tr.C} {fv mv hv : Value} {vars : List ByteArray} {f : Nat → Bool} {W' : World} {t : TypeId} (h : FindAt (w.alloc (.cells #[] t)) P FB cv c fv mv f) (h0 : FindAt w P FB cv c fv mv f)
    (ho : W'.ownsRow w.heap.size 9 1 hv ([] ++ vars).length (flatV strC ([] ++ vars))) (hg : (w.alloc (.cells #[] t)).grownBy W' (Value.ownBlock (.slice (some ⟨w.heap.size, 0, none⟩) 0 0))) (hs : ∀ s ∈ vars, s.size ≤ maxLen) : RHd w P FB cv c fv mv hv vars f W' := by
  have lP := lt_of_block h0.fin
  have lF := lt_of_block h0.fnd
  have hsz : (w.alloc (.cells #[] t)).heap.size = w.heap.size + 1 := World.size_alloc _ _
  have hne : ∀ k, k < w.heap.size → some k ≠ Value.ownBlock (.slice (some ⟨w.heap.size, 0, none⟩) 0 0) := fun k hk e => by
    have : k = w.heap.size := Option.some.inj e
    omega
  have hb := below_box w (.cells #[] t)
  rw [List.nil_append, flatV_str] at ho
  refine ⟨⟨(hg.block P (by omega) (hne P lP)).trans h.fin, (hg.block FB (by omega) (hne FB lF)).trans h.fnd⟩, ho, hs, ⟨hg.os.trans hb.os, hg.tape.trans hb.tape, hg.output.trans hb.output, Nat.le_trans hb.size hg.size, fun k hk _ => ?_⟩, lP, lF⟩
  rw [hg.block k (by omega) (hne k hk), hb.block k hk]
/-- the contract of the reference's stmts at trees of at most this depth -/
def RStmtsOk (w0 : World) (cs : List Tr.C) (cv : Value) (c : Tr.C) (fv mv : Value) (P FB d : Nat) : Prop :=
  ∀ (l : List Tr.S) (v : Value) (w : World) (f : Nat → Bool) (vv : Value) (vars : List ByteArray), Tr.S.deep.deeps l ≤ d → Tr.validSs l = true → SlS w0 v l → Below w0.heap.size w0 w → FindAt w P FB cv c fv mv f → SlStr w vv vars → vars.length + Ck.lets l ≤ 1000000 →
    Calls Tryz.prog 64 #[.pointer (some ⟨P, 0, none⟩), v, vv] w fun r w' => r = .returned (.tuple #[]) ∧ FindAt w' P FB cv c fv mv (fun t => f t || Ck.faultSs cs c l vars t) ∧ w.grownBy w' (some FB)
theorem addVar_len (k : Int) (nm : ByteArray) (v : List ByteArray) : (Ck.addVar k nm v).length = v.length + (if k = 0 then 1 else 0) := by
  unfold Ck.addVar
  split <;> simp
theorem varsOf_len : ∀ (l : List Tr.S) (v : List ByteArray), (varsOf l v).length ≤ v.length + Ck.lets l
  | [], v => Nat.le_add_right _ _
  | s :: r, v => by
    rw [varsOf, Ck.lets]
    have h1 := varsOf_len r (Ck.addVar s.kind s.name v)
    rw [addVar_len] at h1
    obtain ⟨k, nm, x, b, e⟩ := s
    rw [Ck.letsS]
    have h2 : (varsOf r (Ck.addVar k (Tr.S.mk k nm x b e).name v)).length ≤ v.length + (if k = 0 then 1 else 0) + Ck.lets r := h1
    show (varsOf r (Ck.addVar k (Tr.S.mk k nm x b e).name v)).length ≤ _
    by_cases h0 : k = 0
    · rw [if_pos h0] at h2 ⊢; omega
    · rw [if_neg h0] at h2 ⊢; omega

set_option maxRecDepth 100000 in
set_option maxHeartbeats 20000000 in
theorem stmtsR_any (w0 : World) (cs : List Tr.C) (cv : Value) (hcs : SlC w0 cv cs) (c : Tr.C) (fv mv : Value) (hfv : SlStr w0 fv c.fields) (hmv : SlM w0 mv c.methods) (P FB : Nat) (hP0 : w0.heap.size ≤ FB) : ∀ (d : Nat), RStmtsOk w0 cs cv c fv mv P FB d := by
  intro d
  induction d using Nat.strongRecOn with
  | ind d ih =>
    intro l v w f vv vars hd hvd hS hb hP hB hn
    obtain ⟨i0, hi0, hz0, hz1, hz2⟩ := info_parts strInfo2
    have KE := Lib.hid (fun d => exprR_any w0 cs cv hcs c fv mv hfv P FB hP0 d)
    obtain ⟨p, c5, rfl, _⟩ := hS.form
    have hll := hS.len
    unfold maxLen at hll
    have hmcs := hcs.form
    obtain ⟨pv, cpv, rfl⟩ := hcs.form
    obtain ⟨pf, cf, rfl⟩ := hfv.form
    obtain ⟨pm, cm, rfl⟩ := hmv.form
    have hml := hmv.len
    unfold maxLen at hml
    obtain ⟨N, hN⟩ : ∃ N, l.length = N := ⟨_, rfl⟩
    obtain ⟨CN, hCN⟩ : ∃ N, cs.length = N := ⟨_, rfl⟩
    obtain ⟨FN, hFN⟩ : ∃ N, c.fields.length = N := ⟨_, rfl⟩
    obtain ⟨MN, hMN⟩ : ∃ N, c.methods.length = N := ⟨_, rfl⟩
    have HMN := Lib.hid hMN
    rw [hN] at hS hll
    rw [hMN] at hml
    rw [hCN, hFN, hMN] at ih hP KE
    rw [hFN] at hfv
    rw [hMN] at hmv
    have HS := Lib.hid hS
    have HN := Lib.hid hN
    have HD := Lib.hid hd
    have HIH := Lib.hid ih
    have HVS := Lib.hid hvd
    have HBW := Lib.hid hb
    have HFV := Lib.hid hfv
    have HMV := Lib.hid hmv
    have HP := Lib.hid hP
    have HNL := Lib.hid hn
    rw [hN]
    have KC : Hid (∀ (W : World) (nm : ByteArray), Below w0.heap.size w0 W → Calls Tryz.prog 42 #[(.slice pf FN cf), .string nm] W fun e w' => e = .returned (.bool (Ck.hasS c.fields nm)) ∧ w' = W) := fun W nm hb => has_any nm _ _ W (HFV.out.keep hb)
    have KM : Hid (∀ (W : World) (nm : ByteArray), Below w0.heap.size w0 W → Calls Tryz.prog 21 #[.agg #[.string c.name, .bool c.actor, (.slice pf FN cf), (.slice pm MN cm)], .string nm] W fun e w' => e = .returned (.tuple #[.int .i64 ((Ck.methodAt c.methods nm).getD 0 : Nat), .bool (Ck.methodAt c.methods nm).isSome]) ∧ Below W.heap.size W w') := fun W nm hb => by have := refMethod_any nm c _ _ W (HFV.out.keep hb) (HMV.out.keep hb); unfold classV at this; exact this
    rw [hCN, hFN, hMN]
    obtain ⟨pvv, cvv, rfl⟩ := hB.form
    obtain ⟨VN, hVN⟩ : ∃ N, vars.length = N := ⟨_, rfl⟩
    have HVN := Lib.hid hVN
    have hbe := below_box w (.cells #[] 9)
    have HSRC := Lib.hid (hB.src.keep hbe)
    have HSZ0 : Hid (∀ s ∈ vars, s.size ≤ maxLen) := by
      intro s hs
      obtain ⟨j, hj, rfl⟩ := List.getElem_of_mem hs
      obtain ⟨_, _, _, _, _, hx⟩ := hB
      exact (hx j _ (List.getElem?_eq_getElem hj)).1
    have hvl : vars.length ≤ 1000000 := by omega
    have HFE := Lib.hid (hP.keep hbe)
    rw [hVN] at HSRC hvl ⊢
    clear hS hcs hfv hmv hN hd ih hvd hb hCN hFN hP hB hn hMN hVN hbe hmcs
    go_enter Tryz.func64, Tryz.ntmps64
    go_wp2_with (at_builtin; refine wpList_append_src strC 1 strC_len rfl _ _ 31 rfl w.heap.size 9 i0 (.string ⟨#[]⟩) 16 Tryz.underlying31 hi0 hz0 hz1 hz2 rfl (by decide) _ _ [] vars rfl rfl (own_empty w _ 1) HSRC.out (strC_one _) (by rw [HVN.out]; unfold maxLen; simp; omega) (by rw [HVN.out]; simp; omega) (by simp) ?_; intro v7 w7 ho7 hg7; have HH0 : Hid (RHd w P FB (.slice pv CN cpv) c (.slice pf FN cf) (.slice pm MN cm) v7 vars f w7) := Lib.hid (rhd_start HFE.out HP.out ho7 hg7 HSZ0.out); clear ho7 hg7)
    go_loopg [6, 7] N (fun g s6 s7 wr => ∃ j : Nat, s7 = .int .i64 j ∧ j ≤ N ∧ g = N - j ∧ Hid (RHd w P FB (.slice pv CN cpv) c (.slice pf FN cf) (.slice pm MN cm) s6 (varsOf (l.take j) vars) (fun t => f t || Ck.faultSs cs c (l.take j) vars t) wr))
    case atStart => exact ⟨0, rfl, Nat.zero_le _, rfl, Lib.hid (HH0.out.congr (fun t => by rw [List.take_zero, Ck.faultSs, Bool.or_false]))⟩
    case round =>
      obtain ⟨j, rfl, hj, rfl, HST⟩ := hrel
      clear HH0 HFE HSRC HSZ0
      by_cases hlt : j < N
      · obtain ⟨x, hx⟩ : ∃ x, l[j]? = some x := ⟨_, List.getElem?_eq_getElem (by rw [HN.out]; exact hlt)⟩
        have HBR := Lib.hid (grown_below HBW.out HST.out.grown hP0)
        obtain ⟨b, oo, vx, vy, vz, rfl, hblt, hc, hbd, hsx, hsy, hsz⟩ := HS.out.get hx
        have hnext := lets_next hx
        have htk := lets_take_le l (j + 1)
        have hnl := HNL.out
        have hvl2 := varsOf_len (l.take j) vars
        obtain ⟨dp1, dp2, dp3⟩ := Tr.S.deep_in HD.out hx
        have hvx := validSs_mem HVS.out hx
        have hsnoc : Hid (∀ t, Ck.faultSs cs c (l.take (j + 1)) vars t = (Ck.faultSs cs c (l.take j) vars t || Ck.faultS cs c x (varsOf (l.take j) vars) t)) := fun t => by rw [take_get hx, faultSs_snoc]
        have hvarn : Hid (varsOf (l.take (j + 1)) vars = Ck.addVar x.kind x.name (varsOf (l.take j) vars)) := by show _ = _; rw [take_get hx, varsOf_snoc]
        obtain ⟨k, nm, xs, bd, el⟩ := x
        simp only [Tr.S.kind, Tr.S.name, Tr.S.exprs, Tr.S.body, Tr.S.els] at hbd hsx hsy hsz hnext dp2 dp3 hvarn
        have hnm : nm.size ≤ maxLen := hbd.name
        obtain ⟨vxe, vok, vbd, vel⟩ := validS_parts hvx
        obtain ⟨x0, x1, x2, x3, x4⟩ := hc.keep HBR.out
        simp only [Tr.S.kind, Tr.S.name] at x0 x1
        obtain ⟨px, cx, rfl, _⟩ := hsx.form
        obtain ⟨py, cy, rfl, _⟩ := hsy.form
        obtain ⟨pz, cz, rfl, _⟩ := hsz.form
        have hxl := hsx.len
        unfold maxLen at hxl
        obtain ⟨XN, hXN⟩ : ∃ N, xs.length = N := ⟨_, rfl⟩
        obtain ⟨YN, hYN⟩ : ∃ N, bd.length = N := ⟨_, rfl⟩
        obtain ⟨ZN, hZN⟩ : ∃ N, el.length = N := ⟨_, rfl⟩
        rw [hXN] at hsx x2 hxl
        rw [hYN] at hsy x3
        rw [hZN] at hsz x4
        rw [hXN, hYN, hZN] at vok
        obtain ⟨vs, hvs⟩ : ∃ q, varsOf (l.take j) vars = q := ⟨_, rfl⟩
        obtain ⟨fj, hfj⟩ : ∃ q : Nat → Bool, (fun t => f t || Ck.faultSs cs c (l.take j) vars t) = q := ⟨_, rfl⟩
        rw [hvs] at hvl2
        have hnext : Ck.lets (l.take (j + 1)) = Ck.lets (l.take j) + ((if k = 0 then 1 else 0) + Ck.lets bd + Ck.lets el) := hnext
        have hbd1 : vs.length + ((if k = 0 then 1 else 0) + Ck.lets bd + Ck.lets el) ≤ 1000000 := by omega
        have HBD := Lib.hid hbd1
        have hvsl : vs.length ≤ 1000000 := by omega
        have HFJ := Lib.hid hfj
        rw [hvs] at hsnoc hvarn
        rw [hvs, hfj] at HST
        obtain ⟨ph, ch, rfl⟩ := own_form HST.out.own
        have HX := Lib.hid hx
        have HXN := Lib.hid hXN
        have HSX := Lib.hid hsx
        have HSY := Lib.hid hsy
        have HSZ := Lib.hid hsz
        have HVX := Lib.hid vxe
        have HOK := Lib.hid vok
        have HVB := Lib.hid vbd
        have HVE := Lib.hid vel
        obtain ⟨VL, hVL⟩ : ∃ q, vs.length = q := ⟨_, rfl⟩
        rw [hVL] at HST hvsl ⊢
        have HVL := Lib.hid hVL
        have HE0 := Lib.hid (HST.out.box #[.int .i64 k, .string nm, .slice px XN cx, .slice py YN cy, .slice pz ZN cz])
        obtain ⟨w2, hw2⟩ : ∃ w2, w2 = wr.alloc (.cells #[.int .i64 k, .string nm, .slice px XN cx, .slice py YN cy, .slice pz ZN cz] 75) := ⟨_, rfl⟩
        obtain ⟨bx, hbx⟩ : ∃ q, wr.heap.size = q := ⟨_, rfl⟩
        rw [← hw2, hbx] at HE0
        have HW2 := Lib.hid hw2
        have HBX := Lib.hid hbx
        have hk1 := hbd.kind
        have hk1' : Tr.I64 k := hk1
        have b1j : (0 : Int) ≤ (j : Int) := by omega
        have b3j : (j : Int) < (N : Int) := by omega
        clear hx hc hbd hsx hsy hsz hnext htk hnl hvx vxe vok vbd vel hXN hYN hZN hvs hfj hbd1 hw2 hk1 hbx hvl2 hVL
        go_upto_region 5 with fail
        rw [← HW2.out, HBX.out]
        clear x0 x1 x2 x3 x4
        go_wp2_with fail
        go_loopg [9] XN (fun g s9 wq => ∃ i : Nat, s9 = .int .i64 i ∧ i ≤ XN ∧ g = XN - i ∧ Hid (RSS w P FB bx (.slice pv CN cpv) c (.slice pf FN cf) (.slice pm MN cm) (.slice ph VL ch) vs #[.int .i64 k, .string nm, .slice px XN cx, .slice py YN cy, .slice pz ZN cz] (fun t => fj t || Ck.faultEs cs c.fields vs (xs.take i) t) wq))
        case atStart => exact ⟨0, rfl, Nat.zero_le _, rfl, Lib.hid (HE0.out.congr (fun t => by rw [List.take_zero, Ck.faultEs, Bool.or_false]))⟩
        case round =>
          obtain ⟨i, rfl, hi, rfl, HQ⟩ := hrel
          clear HE0 HST HBR HW2
          have b2 := HQ.out.box 2 _ rfl
          by_cases hil : i < XN
          · obtain ⟨y, hy⟩ : ∃ y, xs[i]? = some y := ⟨_, List.getElem?_eq_getElem (by rw [HXN.out]; exact hil)⟩
            have HBQ := Lib.hid (grown_below HBW.out HQ.out.hd.grown hP0)
            obtain ⟨b2', o2', aa, rfl, _, hcy, hbdy, hsl⟩ := HSX.out.get hy
            obtain ⟨y0, y1, y2, y3, y4, y5⟩ := hcy.keep HBQ.out
            obtain ⟨pa, ca, rfl, _⟩ := hsl.form
            obtain ⟨AN, hAN⟩ : ∃ N, y.args.length = N := ⟨_, rfl⟩
            rw [hAN] at hsl y5
            have hcall := KE.out _ y (.slice pa AN ca) _ _ (.slice ph VL ch) vs (Nat.le_refl _) (validEs_mem HVX.out hy) hbdy hsl HBQ.out HQ.out.hd.find HQ.out.hd.vs
            unfold exprV at hcall
            have HY := Lib.hid hy
            have HCALL := Lib.hid hcall
            have b3i : (i : Int) < (XN : Int) := by omega
            clear hy hbdy hsl hcy hAN hcall
            go_wp2_with fail
            refine HCALL.out.mono ?_
            rintro e w3 ⟨rfl, hP2, hg2⟩
            have HN2 := Lib.hid (HQ.out.next hP2 hg2)
            clear hP2 hg2
            go_wp2_with fail
            go_roundg (XN - (i + 1))
            case measure => omega
            case rel => exact ⟨i + 1, by go_num, by omega, rfl, Lib.hid (HN2.out.congr (fun t => by rw [take_get HY.out, faultEs_snoc, Bool.or_assoc]))⟩
          · have hfull : xs.take i = xs := List.take_of_length_le (by rw [HXN.out]; omega)
            rw [hfull] at HQ
            obtain rfl : i = XN := by omega
            obtain ⟨F1, hF1⟩ : ∃ q : Nat → Bool, (fun t => fj t || Ck.faultEs cs c.fields vs xs t) = q := ⟨_, rfl⟩
            rw [hF1] at HQ
            have HF1 := Lib.hid hF1
            clear hfull hF1
            have b0 := HQ.out.box 0 _ rfl
            have b1 := HQ.out.box 1 _ rfl
            have HBL := Lib.hid (grown_below HBW.out HQ.out.hd.grown hP0)
            go_upto_block 4 with fail
            go_cut [6, 10, 11] (fun s6 _ _ wx => ∃ hv : Value, s6 = hv ∧ Hid (RSS w P FB bx (.slice pv CN cpv) c (.slice pf FN cf) (.slice pm MN cm) hv (Ck.addVar k nm vs) #[.int .i64 k, .string nm, .slice px i cx, .slice py YN cy, .slice pz ZN cz] (fun t => F1 t || Ck.ownS c vs k nm xs t) wx))
            case first =>
              by_cases hk0 : k = 0
              · subst hk0
                clear hk1'
                have hlk := Lib.hid (has_any nm _ _ _ HQ.out.hd.vs)
                cases hvh : Ck.hasS vs nm
                · skip
                  rw [hvh] at hlk
                  have HV := Lib.hid hvh
                  clear hvh
                  go_wp2_with fail
                  refine hlk.out.mono ?_
                  rintro e w4 ⟨rfl, rfl⟩
                  have HL1 := HQ
                  have e1 := b1
                  obtain ⟨WX, hWX⟩ : ∃ q, q = w4 := ⟨_, rfl⟩
                  rw [← hWX] at HL1 e1 ⊢
                  clear hWX
                  clear b0 b1 b2
                  go_wp2_with (at_builtin; refine wpList_append_own _ rfl _ _ 31 rfl w.heap.size 9 i0 (.string ⟨#[]⟩) 1 16 Tryz.underlying31 hi0 hz0 hz1 hz2 rfl (by decide) _ _ _ rfl (HL1.out.hd.own.alloc _) ⟨WX.heap.size, 0, none⟩ 1 1 [.string nm] rfl rfl (news_cells (cs := #[.string nm]) rfl (by simp)) (by simp [Value.oneCell']) (by rw [HVL.out]; unfold maxLen; omega) (by rw [HVL.out]; omega) (by have := HL1.out.hd.grown.size; simp <;> omega) ?_; intro v7 w7 ho7 hg7 _; have HL3 := Lib.hid ((HL1.out.keep (below_box WX (.cells #[.string nm] 9))).app hnm rfl ho7 hg7))
                  go_meet
                  exact ⟨_, rfl, by have := HL3.out; exact Lib.hid (this.congr (fun t => by unfold Ck.ownS; rw [if_pos rfl, HV.out]; simp))⟩
                · skip
                  rw [hvh] at hlk
                  have HV := Lib.hid hvh
                  clear hvh
                  go_wp2_with fail
                  refine hlk.out.mono ?_
                  rintro e w4 ⟨rfl, rfl⟩
                  have q5 := HQ.out.hd.find.cell (j := 5) (u := .slice (some ⟨FB, 0, none⟩) 13 13) rfl
                  have f6 := HQ.out.fcell (k := 6) (by omega)
                  have g6 := HQ.out.free 6
                  have HL0 := Lib.hid (HQ.out.set (k := 6) (by omega))
                  have e1 := HL0.out.box 1 _ rfl
                  have HL1 := HL0
                  obtain ⟨WX, hWX⟩ : ∃ q, q = w4.setCell ⟨FB, 6, none⟩ (.bool true) := ⟨_, rfl⟩
                  rw [← hWX] at HL1 e1
                  have HWX := Lib.hid hWX
                  clear hWX
                  go_upto_region 13 with fail
                  rw [← HWX.out]
                  clear b0 b1 b2 q5 f6 g6
                  go_wp2_with (at_builtin; refine wpList_append_own _ rfl _ _ 31 rfl w.heap.size 9 i0 (.string ⟨#[]⟩) 1 16 Tryz.underlying31 hi0 hz0 hz1 hz2 rfl (by decide) _ _ _ rfl (HL1.out.hd.own.alloc _) ⟨WX.heap.size, 0, none⟩ 1 1 [.string nm] rfl rfl (news_cells (cs := #[.string nm]) rfl (by simp)) (by simp [Value.oneCell']) (by rw [HVL.out]; unfold maxLen; omega) (by rw [HVL.out]; omega) (by have := HL1.out.hd.grown.size; simp <;> omega) ?_; intro v7 w7 ho7 hg7 _; have HL3 := Lib.hid ((HL1.out.keep (below_box WX (.cells #[.string nm] 9))).app hnm rfl ho7 hg7))
                  go_meet
                  exact ⟨_, rfl, by have := HL3.out; exact Lib.hid (this.congr (fun t => by unfold Ck.ownS; rw [if_pos rfl, HV.out]; simp))⟩
              · by_cases hk2 : k = 1
                · subst hk2
                  clear hk1'
                  have hlk := Lib.hid (has_any nm _ _ _ HQ.out.hd.vs)
                  cases hvh : Ck.hasS vs nm
                  · skip
                    rw [hvh] at hlk
                    have HV := Lib.hid hvh
                    clear hvh
                    go_wp2_with fail
                    refine hlk.out.mono ?_
                    rintro e w4 ⟨rfl, rfl⟩
                    have q5 := HQ.out.hd.find.cell (j := 5) (u := .slice (some ⟨FB, 0, none⟩) 13 13) rfl
                    have f7 := HQ.out.fcell (k := 7) (by omega)
                    have g7 := HQ.out.free 7
                    have HL0 := Lib.hid (HQ.out.set (k := 7) (by omega))
                    go_wp2_with fail
                    go_meet
                    exact ⟨_, rfl, Lib.hid (HL0.out.congr (fun t => by unfold Ck.ownS; rw [if_neg (by decide), if_pos rfl, HV.out]; simp))⟩
                  · skip
                    rw [hvh] at hlk
                    have HV := Lib.hid hvh
                    clear hvh
                    go_wp2_with fail
                    refine hlk.out.mono ?_
                    rintro e w4 ⟨rfl, rfl⟩
                    go_wp2_with fail
                    go_meet
                    exact ⟨_, rfl, Lib.hid (HQ.out.congr (fun t => by unfold Ck.ownS; rw [if_neg (by decide), if_pos rfl, HV.out]; simp))⟩
                · by_cases hk3 : k = 2
                  · subst hk3
                    have hX2 : i = 2 := okS2 HOK.out
                    obtain ⟨y, hy⟩ : ∃ x, xs[0]? = some x := ⟨_, List.getElem?_eq_getElem (by rw [HXN.out]; omega)⟩
                    obtain ⟨b', oo', aa, rfl, _, hcy, hbdy, hsl⟩ := HSX.out.get hy
                    rw [Nat.zero_mul, Nat.add_zero] at hcy
                    have y0 := (hcy.keep HBL.out).1
                    have hhead : Hid (Ck.headKind xs = y.kind) := by
                      show _ = _
                      cases hl : xs with
                      | nil => rw [hl] at hy; cases hy
                      | cons z r => rw [hl] at hy; cases hy; rfl
                    have hX0 : (0 : Int) < (i : Int) := by omega
                    have q3 := HQ.out.hd.find.cell (j := 3) (u := (.slice pf FN cf)) rfl
                    clear hy hcy hbdy hsl hX2 hk1' hk0 hk2
                    by_cases hth : y.kind = 2
                    · have hth1 : (y.kind == 2) = true := beq_iff_eq.2 hth
                      have HTH := Lib.hid hth
                      have KC0 : Hid (∀ (W : World), Below w0.heap.size w0 W → Calls Tryz.prog 42 #[(.slice pf FN cf), .string nm] W fun e w' => e = .returned (.bool (Ck.hasS c.fields nm)) ∧ w' = W) := fun W hb => KC.out W nm hb
                      clear hth
                      cases hvh : Ck.hasS c.fields nm
                      · skip
                        rw [hvh] at KC0
                        have HV := Lib.hid hvh
                        clear hvh
                        go_wp2_with fail
                        go_quiet ((go_at_call 42; exact Calls.quiet_of_same (KC0.out _ (by first | exact HBL.out | exact HBL.out.drew | exact HBL.out.drew.drew | exact quietB HBL.out))))
                        have HR := Lib.hid (HQ.out.drewN nq)
                        clear b0 b1 b2 q3 y0 hth1
                        have q5 := HR.out.hd.find.cell (j := 5) (u := .slice (some ⟨FB, 0, none⟩) 13 13) rfl
                        have f10 := HR.out.fcell (k := 10) (by omega)
                        have g10 := HR.out.free 10
                        have HL0 := Lib.hid (HR.out.set (k := 10) (by omega))
                        go_wp2_with fail
                        go_meet
                        exact ⟨_, rfl, Lib.hid (HL0.out.congr (fun t => by unfold Ck.ownS; rw [if_neg (by decide), if_neg (by decide), if_pos rfl, hhead.out, decide_eq_true HTH.out, HV.out]; simp))⟩
                      · skip
                        rw [hvh] at KC0
                        have HV := Lib.hid hvh
                        clear hvh
                        go_wp2_with fail
                        go_quiet ((go_at_call 42; exact Calls.quiet_of_same (KC0.out _ (by first | exact HBL.out | exact HBL.out.drew | exact HBL.out.drew.drew | exact quietB HBL.out))))
                        have HR := Lib.hid (HQ.out.drewN nq)
                        clear b0 b1 b2 q3 y0 hth1
                        go_wp2_with fail
                        go_meet
                        exact ⟨_, rfl, Lib.hid (HR.out.congr (fun t => by unfold Ck.ownS; rw [if_neg (by decide), if_neg (by decide), if_pos rfl, hhead.out, decide_eq_true HTH.out, HV.out]; simp))⟩
                    · have hth1 : (y.kind == 2) = false := beq_eq_false_iff_ne.2 hth
                      have HTH := Lib.hid hth
                      clear hth
                      go_wp2_with fail
                      go_quiet (fail)
                      have HR := Lib.hid (HQ.out.drewN nq)
                      clear b0 b1 b2 q3 y0 hth1
                      go_wp2_with fail
                      go_meet
                      exact ⟨_, rfl, Lib.hid (HR.out.congr (fun t => by unfold Ck.ownS; rw [if_neg (by decide), if_neg (by decide), if_pos rfl, hhead.out, decide_eq_false HTH.out]; simp))⟩
                  · by_cases hk4 : k = 8
                    · subst hk4
                      have q1 := HQ.out.hd.find.cell (j := 1) (u := .string c.name) rfl
                      have q2 := HQ.out.hd.find.cell (j := 2) (u := .bool c.actor) rfl
                      have q3 := HQ.out.hd.find.cell (j := 3) (u := .slice pf FN cf) rfl
                      have q4 := HQ.out.hd.find.cell (j := 4) (u := .slice pm MN cm) rfl
                      clear hk1' hk0 hk2 hk3
                      cases hcl : Ck.methodAt c.methods nm with
                      | none =>
                        have KM0 := Lib.hid (fun W hb => KM.out W nm hb)
                        simp only [hcl, Option.getD_none, Option.isSome_none] at KM0
                        have HCL := Lib.hid hcl
                        clear hcl
                        go_wp2_with fail
                        go_region_held3 (fun w' => w'.cell? ⟨P, 1, none⟩ = some (.string c.name) ∧ w'.cell? ⟨P, 2, none⟩ = some (.bool c.actor) ∧ w'.cell? ⟨P, 3, none⟩ = some (.slice pf FN cf) ∧ w'.cell? ⟨P, 4, none⟩ = some (.slice pm MN cm) ∧ w'.cell? ⟨bx, 1, none⟩ = some (.string nm) ∧ Hid (RSS w P FB bx (.slice pv CN cpv) c (.slice pf FN cf) (.slice pm MN cm) (.slice ph VL ch) vs #[.int .i64 8, .string nm, .slice px i cx, .slice py YN cy, .slice pz ZN cz] F1 w')) (first | exact rss_keep6 (by assumption) hb | exact ⟨q1, q2, q3, q4, b1, HQ⟩ | exact ⟨q1, q2, q3, q4, b1, Lib.hid HQ.out.drew⟩ | go_keep) (first | (go_at_call 21; (with_reducible refine (KM0.out _ (rss_below6 HBW.out hP0 (by assumption))).mono ?_); rintro e w' ⟨rfl, hb⟩))
                        have HR := Lib.hid (rss_of6 (by assumption))
                        clear b0 b1 b2 q1 q2 q3 q4
                        have q5 := HR.out.hd.find.cell (j := 5) (u := .slice (some ⟨FB, 0, none⟩) 13 13) rfl
                        have f11 := HR.out.fcell (k := 11) (by omega)
                        have g11 := HR.out.free 11
                        have HL0 := Lib.hid (HR.out.set (k := 11) (by omega))
                        go_wp2_with fail
                        go_meet
                        exact ⟨_, rfl, Lib.hid (HL0.out.congr (fun t => by unfold Ck.ownS; rw [if_neg (by decide), if_neg (by decide), if_neg (by decide), if_pos rfl, HCL.out]))⟩
                      | some q =>
                        have KM0 := Lib.hid (fun W hb => KM.out W nm hb)
                        simp only [hcl, Option.getD_some, Option.isSome_some] at KM0
                        have hql := find_lt hcl
                        obtain ⟨mm, hq⟩ : ∃ x, c.methods[q]? = some x := ⟨_, List.getElem?_eq_getElem hql⟩
                        obtain ⟨bm, om, vp, vb, rfl, _, hcm, _, hsp, _⟩ := HMV.out.get hq
                        obtain ⟨pp, cp, rfl⟩ := hsp.form
                        obtain ⟨PL, hPL⟩ : ∃ N, mm.params.length = N := ⟨_, rfl⟩
                        have HC2 := Lib.hid hcm.2.1
                        rw [hPL] at HC2
                        have HPL := Lib.hid hPL
                        have HCL := Lib.hid hcl
                        have hi2 := Lib.hid hq
                        rw [HMN.out] at hql
                        clear hcl hq hcm hsp hPL
                        by_cases h1 : PL = 1
                        · skip
                          have h1b : ((PL : Int) != 1) = false := by rw [h1]; rfl
                          have H1 := Lib.hid h1
                          clear h1
                          go_wp2_with fail
                          go_region_held3 (fun w' => w'.cell? ⟨P, 1, none⟩ = some (.string c.name) ∧ w'.cell? ⟨P, 2, none⟩ = some (.bool c.actor) ∧ w'.cell? ⟨P, 3, none⟩ = some (.slice pf FN cf) ∧ w'.cell? ⟨P, 4, none⟩ = some (.slice (some ⟨bm, om, none⟩) MN cm) ∧ w'.cell? ⟨bx, 1, none⟩ = some (.string nm) ∧ Hid (RSS w P FB bx (.slice pv CN cpv) c (.slice pf FN cf) (.slice (some ⟨bm, om, none⟩) MN cm) (.slice ph VL ch) vs #[.int .i64 8, .string nm, .slice px i cx, .slice py YN cy, .slice pz ZN cz] F1 w')) (first | exact rss_keep6 (by assumption) hb | exact ⟨q1, q2, q3, q4, b1, HQ⟩ | exact ⟨q1, q2, q3, q4, b1, Lib.hid HQ.out.drew⟩ | go_keep) (first | (go_at_call 21; (with_reducible refine (KM0.out _ (rss_below6 HBW.out hP0 (by assumption))).mono ?_); rintro e w' ⟨rfl, hb⟩))
                          have HR := Lib.hid (rss_of6 (by assumption))
                          clear b0 b1 b2 q1 q2 q3 q4
                          have HB3 := Lib.hid (grown_below HBW.out HR.out.hd.grown hP0)
                          have q4 := HR.out.hd.find.cell (j := 4) (u := .slice (some ⟨bm, om, none⟩) MN cm) rfl
                          have z2 := cell_keep' HB3.out HC2.out
                          go_wp2_with fail
                          go_meet
                          exact ⟨_, rfl, Lib.hid (HR.out.congr (fun t => by rw [own_watch HCL.out hi2.out, HPL.out, decide_eq_false (p := PL ≠ 1) (by have := H1.out; omega)]; simp))⟩
                        · skip
                          have h1b : ((PL : Int) != 1) = true := by rw [bne_iff_ne]; omega
                          have H1 := Lib.hid h1
                          clear h1
                          go_wp2_with fail
                          go_region_held3 (fun w' => w'.cell? ⟨P, 1, none⟩ = some (.string c.name) ∧ w'.cell? ⟨P, 2, none⟩ = some (.bool c.actor) ∧ w'.cell? ⟨P, 3, none⟩ = some (.slice pf FN cf) ∧ w'.cell? ⟨P, 4, none⟩ = some (.slice (some ⟨bm, om, none⟩) MN cm) ∧ w'.cell? ⟨bx, 1, none⟩ = some (.string nm) ∧ Hid (RSS w P FB bx (.slice pv CN cpv) c (.slice pf FN cf) (.slice (some ⟨bm, om, none⟩) MN cm) (.slice ph VL ch) vs #[.int .i64 8, .string nm, .slice px i cx, .slice py YN cy, .slice pz ZN cz] F1 w')) (first | exact rss_keep6 (by assumption) hb | exact ⟨q1, q2, q3, q4, b1, HQ⟩ | exact ⟨q1, q2, q3, q4, b1, Lib.hid HQ.out.drew⟩ | go_keep) (first | (go_at_call 21; (with_reducible refine (KM0.out _ (rss_below6 HBW.out hP0 (by assumption))).mono ?_); rintro e w' ⟨rfl, hb⟩))
                          have HR := Lib.hid (rss_of6 (by assumption))
                          clear b0 b1 b2 q1 q2 q3 q4
                          have HB3 := Lib.hid (grown_below HBW.out HR.out.hd.grown hP0)
                          have q4 := HR.out.hd.find.cell (j := 4) (u := .slice (some ⟨bm, om, none⟩) MN cm) rfl
                          have z2 := cell_keep' HB3.out HC2.out
                          have q5 := HR.out.hd.find.cell (j := 5) (u := .slice (some ⟨FB, 0, none⟩) 13 13) rfl
                          have f12 := HR.out.fcell (k := 12) (by omega)
                          have g12 := HR.out.free 12
                          have HL0 := Lib.hid (HR.out.set (k := 12) (by omega))
                          go_wp2_with fail
                          go_meet
                          exact ⟨_, rfl, Lib.hid (HL0.out.congr (fun t => by rw [own_watch HCL.out hi2.out, HPL.out, decide_eq_true (p := PL ≠ 1) (by have := H1.out; omega)]; simp))⟩
                    · have h0b : (k == 0) = false := beq_eq_false_iff_ne.2 hk0
                      have h1b : (k == 1) = false := beq_eq_false_iff_ne.2 hk2
                      have h2b : (k == 2) = false := beq_eq_false_iff_ne.2 hk3
                      have h8b : (k == 8) = false := beq_eq_false_iff_ne.2 hk4
                      have hown : Hid (∀ t, Ck.ownS c vs k nm xs t = false) := fun t => by unfold Ck.ownS; rw [if_neg hk0, if_neg hk2, if_neg hk3, if_neg hk4]
                      have hav : Hid (Ck.addVar k nm vs = vs) := by show _ = _; unfold Ck.addVar; rw [if_neg hk0]
                      clear hk0 hk2 hk3 hk4 hk1'
                      go_wp2_with fail
                      go_meet
                      rw [hav.out]
                      exact ⟨_, rfl, Lib.hid (HQ.out.congr (fun t => by rw [hown.out, Bool.or_false]))⟩
            case rest =>
              obtain ⟨hv, rfl, HM⟩ := hcut
              clear b0 b1 b2 KC KM
              obtain ⟨p6, c6, rfl⟩ := own_form HM.out.hd.own
              have b3 := HM.out.box 3 _ rfl
              have HBM := Lib.hid (grown_below HBW.out HM.out.hd.grown hP0)
              obtain ⟨VL2, hVL2⟩ : ∃ q, (Ck.addVar k nm vs).length = q := ⟨_, rfl⟩
              have hbl := HBD.out
              have hlen2 := addVar_len k nm vs
              have HIB : Hid ((Ck.addVar k nm vs).length + Ck.lets bd ≤ 1000000) := by show _ ≤ _; omega
              have HIE : Hid ((Ck.addVar k nm vs).length + Ck.lets el ≤ 1000000) := by show _ ≤ _; omega
              rw [hVL2] at HM ⊢
              clear hVL2 hbl hlen2
              go_wp2_with fail
              refine (HIH.out (d - 1) (by omega) bd _ _ _ _ _ dp2 HVB.out (by have := HSY.out; exact this) HBM.out HM.out.hd.find HM.out.hd.vs HIB.out).mono ?_
              rintro e w5 ⟨rfl, hP5, hg5⟩
              have HM5 := Lib.hid (HM.out.next hP5 hg5)
              have HBM5 := Lib.hid (grown_below HBW.out HM5.out.hd.grown hP0)
              have d4 := HM5.out.box 4 _ rfl
              clear hP5 hg5 b3
              go_wp2_with fail
              refine (HIH.out (d - 1) (by omega) el _ _ _ _ _ dp3 HVE.out (by have := HSZ.out; exact this) HBM5.out HM5.out.hd.find HM5.out.hd.vs HIE.out).mono ?_
              rintro e w6 ⟨rfl, hP6, hg6⟩
              have HM6 := Lib.hid (HM5.out.next hP6 hg6)
              clear hP6 hg6 d4
              go_wp2_with fail
              go_roundg (N - (j + 1))
              case measure => omega
              case rel =>
                refine ⟨j + 1, by go_num, by omega, rfl, Lib.hid ?_⟩
                rw [hvarn.out]
                refine HM6.out.hd.congr (fun t => ?_)
                rw [hsnoc.out t, ← HF1.out, ← HFJ.out, Ck.faultS]
                simp only [Bool.or_assoc]
      · go_wp2_with fail
        go_end0
        have hfull : l.take j = l := List.take_of_length_le (by rw [HN.out]; omega)
        refine ⟨rfl, HST.out.find.congr (fun t => ?_), HST.out.grown⟩
        rw [hfull]
end Go.Proofs.YtdafdbjdnebnfaaGreatDoor
