/-
  The reference's finder in memory, and its expr, walked.
-/
import Derived.Test.YtdafdbjdnebnfaaGreatDoorCkRefHas
import Derived.Test.YtdafdbjdnebnfaaGreatDoorCkRefFind
namespace Go.Proofs.YtdafdbjdnebnfaaGreatDoor
open Go.RowKit Go.Maps

theorem blk_cell {w : World} {g : Nat} {cur : Array Value} {t : TypeId} {r : Nat × Nat} (h : w.heap[g]? = some (.cells cur t r)) {j : Nat} {u : Value} (hu : cur[j]? = some u) : w.cell? ⟨g, j, none⟩ = some u := by
  simp only [World.cell?, h]
  simpa using hu
def foundCells (f : Nat → Bool) : Array Value := #[.bool (f 0), .bool (f 1), .bool (f 2), .bool (f 3), .bool (f 4), .bool (f 5), .bool (f 6), .bool (f 7), .bool (f 8), .bool (f 9), .bool (f 10), .bool (f 11), .bool (f 12)]
def finCells (cv : Value) (c : Tr.C) (fv mv : Value) (FB : Nat) : Array Value := #[cv, .string c.name, .bool c.actor, fv, mv, .slice (some ⟨FB, 0, none⟩) 13 13]
/-- block P of w is a finder whose row of faults lies in block FB -/
structure FindAt (w : World) (P FB : Nat) (cv : Value) (c : Tr.C) (fv mv : Value) (f : Nat → Bool) : Prop where
  fin : w.heap[P]? = some (.cells (finCells cv c fv mv FB) 100 (0, 0))
  fnd : w.heap[FB]? = some (.cells (foundCells f) 4 (0, 0))
/-- block FB of w is a row of faults -/
theorem found_cell {w : World} {FB : Nat} {f : Nat → Bool} {t : TypeId} {r : Nat × Nat} (h : w.heap[FB]? = some (.cells (foundCells f) t r)) {k : Nat} (hk : k < 13) : w.cell? ⟨FB, k, none⟩ = some (.bool (f k)) := by
  refine blk_cell h ?_
  match k, hk with
  | 0, _ => rfl | 1, _ => rfl | 2, _ => rfl | 3, _ => rfl | 4, _ => rfl | 5, _ => rfl | 6, _ => rfl | 7, _ => rfl | 8, _ => rfl | 9, _ => rfl | 10, _ => rfl | 11, _ => rfl | 12, _ => rfl
theorem found_free {w : World} {FB : Nat} {f : Nat → Bool} {t : TypeId} (h : w.heap[FB]? = some (.cells (foundCells f) t (0, 0))) (k : Nat) : w.frozen? ⟨FB, k, none⟩ = false := by simp [World.frozen?, h]
theorem found_upd (f : Nat → Bool) (b : Bool) {k : Nat} (hk : k < 13) : (foundCells f).setIfInBounds k (.bool b) = foundCells (fun t => if t = k then b else f t) := by
  unfold foundCells
  match k, hk with
  | 0, _ => simp | 1, _ => simp | 2, _ => simp | 3, _ => simp | 4, _ => simp | 5, _ => simp | 6, _ => simp | 7, _ => simp | 8, _ => simp | 9, _ => simp | 10, _ => simp | 11, _ => simp | 12, _ => simp
theorem found_set {w : World} {FB : Nat} {f : Nat → Bool} {t : TypeId} (h : w.heap[FB]? = some (.cells (foundCells f) t (0, 0))) (b : Bool) {k : Nat} (hk : k < 13) :
    (w.setCell ⟨FB, k, none⟩ (.bool b)).heap[FB]? = some (.cells (foundCells (fun t => if t = k then b else f t)) t (0, 0)) := by
  rw [heap_set _ h, found_upd f b hk]
section
variable {w w' : World} {P FB : Nat} {cv fv mv : Value} {c : Tr.C} {f : Nat → Bool}
theorem FindAt.ne (h : FindAt w P FB cv c fv mv f) : P ≠ FB := by
  rintro rfl
  have := h.fin.symm.trans h.fnd
  simp only [Option.some.injEq, Obj.cells.injEq] at this
  exact absurd this.2.1 (by decide)
theorem FindAt.cell (h : FindAt w P FB cv c fv mv f) {j : Nat} {u : Value} (hj : (finCells cv c fv mv FB)[j]? = some u) : w.cell? ⟨P, j, none⟩ = some u := blk_cell h.fin hj
theorem FindAt.keep (h : FindAt w P FB cv c fv mv f) (hb : Below w.heap.size w w') : FindAt w' P FB cv c fv mv f :=
  ⟨(hb.block P (lt_of_block h.fin)).trans h.fin, (hb.block FB (lt_of_block h.fnd)).trans h.fnd⟩
theorem FindAt.congr (h : FindAt w P FB cv c fv mv f) {g : Nat → Bool} (he : ∀ t, f t = g t) : FindAt w P FB cv c fv mv g := by
  have : f = g := funext he
  rw [← this]; exact h
theorem FindAt.set (h : FindAt w P FB cv c fv mv f) {k : Nat} (hk : k < 13) : FindAt (w.setCell ⟨FB, k, none⟩ (.bool true)) P FB cv c fv mv (fun t => f t || (t == k)) := by
  have h1 : FindAt (w.setCell ⟨FB, k, none⟩ (.bool true)) P FB cv c fv mv (fun t => if t = k then true else f t) :=
    ⟨((grown_setCell w FB k (.bool true)).block P (lt_of_block h.fin) (fun e => h.ne (Option.some.inj e))).trans h.fin, found_set h.fnd true hk⟩
  refine h1.congr (fun t => ?_)
  by_cases e : t = k
  · subst e; simp
  · simp [e]
theorem found_bool {f : Nat → Bool} {i : Nat} {u : Value} (h : (foundCells f)[i]? = some u) : ∃ b, u = .bool b := by
  have := Array.mem_of_getElem? h
  unfold foundCells at this
  simp only [List.mem_toArray, List.mem_cons, List.not_mem_nil, or_false] at this
  rcases this with rfl | rfl | rfl | rfl | rfl | rfl | rfl | rfl | rfl | rfl | rfl | rfl | rfl <;> exact ⟨_, rfl⟩
theorem SlStr.find {v : Value} {l : List ByteArray} {t : TypeId} (h : SlStr w v l) (hf : w.heap[FB]? = some (.cells (foundCells f) t (0, 0))) (hg : w.grownBy w' (some FB)) : SlStr w' v l := by
  obtain ⟨p, c, e, hl, hn, hx⟩ := h
  refine ⟨p, c, e, hl, hn, fun j s hj => ?_⟩
  obtain ⟨hs, b, o, e2, h1, h2⟩ := hx j s hj
  refine ⟨hs, b, o, e2, Nat.lt_of_lt_of_le h1 hg.size, hg.cell h2 ?_⟩
  intro e3
  cases e3
  simp only [World.cell?, hf] at h2
  obtain ⟨b, hb⟩ := found_bool (by simpa using h2)
  cases hb
end
/-- what stands in memory while the reference examines a tree's node whose cells lie in block bx -/
structure RSt (w : World) (P FB bx : Nat) (cv : Value) (c : Tr.C) (fv mv vv : Value) (vars : List ByteArray) (cells : Array Value) (f : Nat → Bool) (W : World) : Prop where
  find : FindAt W P FB cv c fv mv f
  vs : SlStr W vv vars
  grown : w.grownBy W (some FB)
  box : ∀ (j : Nat) (u : Value), cells[j]? = some u → W.cell? ⟨bx, j, none⟩ = some u
  ne : bx ≠ FB
section
variable {w : World} {P FB bx : Nat} {cv : Value} {c : Tr.C} {fv mv vv : Value} {vars : List ByteArray} {cells : Array Value} {f : Nat → Bool} {W W' : World}
theorem RSt.next (h : RSt w P FB bx cv c fv mv vv vars cells f W) {g : Nat → Bool} (hp : FindAt W' P FB cv c fv mv g) (hg : W.grownBy W' (some FB)) : RSt w P FB bx cv c fv mv vv vars cells g W' :=
  ⟨hp, h.vs.find h.find.fnd hg, grown_trans h.grown hg, fun j u hu => hg.cell (h.box j u hu) (fun e => h.ne (Option.some.inj e)), h.ne⟩
theorem RSt.keep (h : RSt w P FB bx cv c fv mv vv vars cells f W) (hb : Below W.heap.size W W') : RSt w P FB bx cv c fv mv vv vars cells f W' := h.next (h.find.keep hb) (grown_of_below hb)
theorem RSt.drew (h : RSt w P FB bx cv c fv mv vv vars cells f W) : RSt w P FB bx cv c fv mv vv vars cells f W.drew := h.keep (Below.refl _ _).drew
theorem RSt.drewN (h : RSt w P FB bx cv c fv mv vv vars cells f W) (q : Nat) : RSt w P FB bx cv c fv mv vv vars cells f (W.drewN q) := h.keep (quietB (Below.refl _ _))
theorem RSt.congr (h : RSt w P FB bx cv c fv mv vv vars cells f W) {g : Nat → Bool} (he : ∀ t, f t = g t) : RSt w P FB bx cv c fv mv vv vars cells g W := ⟨h.find.congr he, h.vs, h.grown, h.box, h.ne⟩
theorem RSt.set (h : RSt w P FB bx cv c fv mv vv vars cells f W) {k : Nat} (hk : k < 13) : RSt w P FB bx cv c fv mv vv vars cells (fun t => f t || (t == k)) (W.setCell ⟨FB, k, none⟩ (.bool true)) := h.next (h.find.set hk) (grown_setCell _ _ _ _)
theorem RSt.made (hp : FindAt w P FB cv c fv mv f) (hs : SlStr w vv vars) (cells : Array Value) (t : TypeId) : RSt w P FB w.heap.size cv c fv mv vv vars cells f (w.alloc (.cells cells t)) :=
  ⟨hp.keep (below_box _ _), hs.keep (below_box _ _), World.grownBy_alloc _ _ _, fun j u hu => box_cell w cells t j u hu, by have := lt_of_block hp.fnd; omega⟩
theorem RSt.fcell (h : RSt w P FB bx cv c fv mv vv vars cells f W) {k : Nat} (hk : k < 13) : W.cell? ⟨FB, k, none⟩ = some (.bool (f k)) := found_cell h.find.fnd hk
theorem RSt.free (h : RSt w P FB bx cv c fv mv vv vars cells f W) (k : Nat) : W.frozen? ⟨FB, k, none⟩ = false := found_free h.find.fnd k
end
theorem rfin {w : World} {P FB bx : Nat} {cv : Value} {c : Tr.C} {fv mv vv : Value} {vars : List ByteArray} {cells : Array Value} {f F : Nat → Bool} {W : World} {cs : List Tr.C} {k o i : Int} {nm : ByteArray} {at_ : Bool} {l : List Tr.E}
    (h : RSt w P FB bx cv c fv mv vv vars cells F W) (he : ∀ t, F t = ((f t || Ck.faultEs cs c.fields vars l t) || Ck.ownE cs c.fields vars k nm at_ l t)) :
    FindAt W P FB cv c fv mv (fun t => f t || Ck.faultE cs c.fields vars (.mk k o i nm at_ l) t) ∧ w.grownBy W (some FB) :=
  ⟨h.find.congr (fun t => by rw [he, faultE_own]; cases f t <;> cases Ck.faultEs cs c.fields vars l t <;> cases Ck.ownE cs c.fields vars k nm at_ l t <;> rfl), h.grown⟩
theorem rst_keep {a b : Value} {q1 q2 : Addr} {w : World} {P FB bx : Nat} {cv : Value} {c : Tr.C} {fv mv vv : Value} {vars : List ByteArray} {cells : Array Value} {f : Nat → Bool} {W W' : World} (h : W.cell? q1 = some a ∧ W.cell? q2 = some b ∧ Hid (RSt w P FB bx cv c fv mv vv vars cells f W)) (hb : Below W.heap.size W W') :
    W'.cell? q1 = some a ∧ W'.cell? q2 = some b ∧ Hid (RSt w P FB bx cv c fv mv vv vars cells f W') :=
  ⟨(grown_of_below (r := none) hb).cell h.1 (by simp), (grown_of_below (r := none) hb).cell h.2.1 (by simp), h.2.2.out.keep hb⟩
theorem rst_of {p q : Prop} {w : World} {P FB bx : Nat} {cv : Value} {c : Tr.C} {fv mv vv : Value} {vars : List ByteArray} {cells : Array Value} {f : Nat → Bool} {W : World} (h : p ∧ q ∧ Hid (RSt w P FB bx cv c fv mv vv vars cells f W)) : RSt w P FB bx cv c fv mv vv vars cells f W := h.2.2.out
theorem rst_below {p q : Prop} {w0 w : World} {P FB bx : Nat} {cv : Value} {c : Tr.C} {fv mv vv : Value} {vars : List ByteArray} {cells : Array Value} {f : Nat → Bool} {W : World} (hb : Below w0.heap.size w0 w) (hP : w0.heap.size ≤ FB) (h : p ∧ q ∧ Hid (RSt w P FB bx cv c fv mv vv vars cells f W)) : Below w0.heap.size w0 W := grown_below hb h.2.2.out.grown hP
/-- the contract of the reference's expr at trees of at most this depth -/
def RExprOk (w0 : World) (cs : List Tr.C) (cv : Value) (c : Tr.C) (fv mv : Value) (P FB d : Nat) : Prop :=
  ∀ (e : Tr.E) (a : Value) (w : World) (f : Nat → Bool) (vv : Value) (vars : List ByteArray), e.deep ≤ d → Tr.validE e = true → BdE e → SlE w0 a e.args → Below w0.heap.size w0 w → FindAt w P FB cv c fv mv f → SlStr w vv vars →
    Calls Tryz.prog 84 #[.pointer (some ⟨P, 0, none⟩), exprV e a, vv] w fun r w' => r = .returned (.tuple #[]) ∧ FindAt w' P FB cv c fv mv (fun t => f t || Ck.faultE cs c.fields vars e t) ∧ w.grownBy w' (some FB)

set_option maxRecDepth 100000 in
set_option maxHeartbeats 20000000 in
theorem exprR_any (w0 : World) (cs : List Tr.C) (cv : Value) (hcs : SlC w0 cv cs) (c : Tr.C) (fv mv : Value) (hfv : SlStr w0 fv c.fields) (P FB : Nat) (hP0 : w0.heap.size ≤ FB) : ∀ (d : Nat), RExprOk w0 cs cv c fv mv P FB d := by
  intro d
  induction d with
  | zero => intro e a w f vv vars hd; have := e.deep_pos; omega
  | succ d ih =>
    intro e a w f vv vars hd hvd hbd hS hb hP hB
    obtain ⟨k, o, i, nm, at_, l⟩ := e
    have hnm : nm.size ≤ maxLen := hbd.name
    have hk1 := hbd.kind
    have hS' : SlE w0 a l := hS
    obtain ⟨p, c5, rfl, hcap⟩ := hS'.form
    have hll := hS'.len
    unfold maxLen at hll
    obtain ⟨pv, cpv, rfl⟩ := hcs.form
    obtain ⟨pf, cf, rfl⟩ := hfv.form
    obtain ⟨pvv, cvv, rfl⟩ := hB.form
    have hcl := hcs.len
    unfold maxLen at hcl
    rw [Tr.validE, Bool.and_eq_true] at hvd
    obtain ⟨hvs, hok⟩ := hvd
    obtain ⟨N, hN⟩ : ∃ N, l.length = N := ⟨_, rfl⟩
    rw [hN] at hS' hll hok
    obtain ⟨CN, hCN⟩ : ∃ N, cs.length = N := ⟨_, rfl⟩
    obtain ⟨FN, hFN⟩ : ∃ N, c.fields.length = N := ⟨_, rfl⟩
    obtain ⟨VN, hVN⟩ : ∃ N, vars.length = N := ⟨_, rfl⟩
    have HE0 := Lib.hid (RSt.made hP hB #[.int .i64 k, .int .i64 o, .int .i64 i, .string nm, .bool at_, .slice p N c5] 78)
    have HS := Lib.hid hS'
    have HN := Lib.hid hN
    have HD := Lib.hid hd
    have HIH := Lib.hid ih
    have HVS := Lib.hid hvs
    have HBW := Lib.hid hb
    have HCS := Lib.hid hcs
    have HFV := Lib.hid hfv
    have HOK := Lib.hid hok
    rw [hCN] at HCS HE0 hcl
    rw [hFN] at HFV HE0
    rw [hVN] at HE0
    rw [hCN, hFN] at HIH
    have HCN := Lib.hid hCN
    have HVN := Lib.hid hVN
    unfold exprV
    simp only [Tr.E.kind, Tr.E.op, Tr.E.int, Tr.E.name, Tr.E.at_]
    rw [hN, hCN, hFN, hVN]
    have KC : Hid (∀ (W : World), Below w0.heap.size w0 W → Calls Tryz.prog 42 #[.slice pf FN cf, .string nm] W fun e w' => e = .returned (.bool (Ck.hasS c.fields nm)) ∧ w' = W) := fun W hb => has_any _ _ _ _ (HFV.out.keep hb)
    have KV : Hid (∀ (W : World), SlStr W (.slice pvv VN cvv) vars → Calls Tryz.prog 42 #[.slice pvv VN cvv, .string nm] W fun e w' => e = .returned (.bool (Ck.hasS vars nm)) ∧ w' = W) := fun W hb => has_any _ _ _ _ hb
    have KCL : Hid (∀ (W : World), Below w0.heap.size w0 W → Calls Tryz.prog 19 #[.agg #[.slice pv CN cpv], .string nm] W fun e w' => e = .returned (.tuple #[.int .i64 ((Ck.classAt cs nm).getD 0 : Nat), .bool (Ck.classAt cs nm).isSome]) ∧ Below W.heap.size W w') := fun W hb => refClass_any nm cs _ W (HCS.out.keep hb)
    have hB1 := Lib.hid (hb.trans ((below_box w (.cells #[.int .i64 k, .int .i64 o, .int .i64 i, .string nm, .bool at_, .slice p N c5] 78)).mono hb.size))
    obtain ⟨w1, hw1⟩ : ∃ w1, w1 = w.alloc (.cells #[.int .i64 k, .int .i64 o, .int .i64 i, .string nm, .bool at_, .slice p N c5] 78) := ⟨_, rfl⟩
    rw [← hw1] at HE0 hB1
    have HW1 := Lib.hid hw1
    clear hbd hS hS' hcs hfv hN hd ih hvs hb hCN hFN hw1 hP hB hok hVN
    go_enter Tryz.func84, Tryz.ntmps84
    go_upto_region 1 with fail
    rw [← HW1.out]
    clear HW1
    go_wp2_with fail
    go_loopw [6] (fun s6 wr => ∃ j : Nat, s6 = .int .i64 j ∧ j ≤ N ∧ Hid (RSt w P FB w.heap.size (.slice pv CN cpv) c (.slice pf FN cf) mv (.slice pvv VN cvv) vars #[.int .i64 k, .int .i64 o, .int .i64 i, .string nm, .bool at_, .slice p N c5] (fun t => f t || Ck.faultEs cs c.fields vars (l.take j) t) wr)) (fun s6 _ => N - (intOf s6).toNat)
    case atStart => exact ⟨0, rfl, Nat.zero_le _, Lib.hid (HE0.out.congr (fun t => by rw [List.take_zero, Ck.faultEs, Bool.or_false]))⟩
    case round =>
      obtain ⟨j, rfl, hj, HST⟩ := hrel
      clear HE0
      have HBR := Lib.hid (grown_below HBW.out HST.out.grown hP0)
      have b5 := HST.out.box 5 _ rfl
      by_cases hlt : j < N
      · obtain ⟨x, hx⟩ : ∃ x, l[j]? = some x := ⟨_, List.getElem?_eq_getElem (by rw [HN.out]; exact hlt)⟩
        obtain ⟨b, oo, aa, rfl, hblt, hc, hbd, hsl⟩ := HS.out.get hx
        obtain ⟨x0, x1, x2, x3, x4, x5⟩ := hc.keep HBR.out
        obtain ⟨pa, ca, rfl, _⟩ := hsl.form
        obtain ⟨AN, hAN⟩ : ∃ N, x.args.length = N := ⟨_, rfl⟩
        rw [hAN] at hsl x5
        have hcall := HIH.out x (.slice pa AN ca) _ _ (.slice pvv VN cvv) vars (Tr.E.deep_args HD.out (e := .mk k o i nm at_ l) hx) (validEs_mem HVS.out hx) hbd hsl HBR.out HST.out.find HST.out.vs
        unfold exprV at hcall
        have HX := Lib.hid hx
        have HCALL := Lib.hid hcall
        clear hx hbd hsl hc hAN hcall
        go_wp2_with fail
        refine HCALL.out.mono ?_
        rintro e w2 ⟨rfl, hP2, hg2⟩
        have HN2 := Lib.hid (HST.out.next hP2 hg2)
        clear hP2 hg2
        go_wp2_with fail
        go_roundw
        case rel => exact ⟨j + 1, by go_num, by omega, Lib.hid (HN2.out.congr (fun t => by rw [take_get HX.out, faultEs_snoc, Bool.or_assoc]))⟩
        case measure => simp [intOf]; omega
      · have hfull : l.take j = l := List.take_of_length_le (by rw [HN.out]; omega)
        rw [hfull] at HST
        have b0 := HST.out.box 0 _ rfl
        have q5 := HST.out.find.cell (j := 5) (u := .slice (some ⟨FB, 0, none⟩) 13 13) rfl
        clear hfull HIH
        obtain rfl : j = N := by omega
        by_cases h3 : k = 3
        · subst h3
          have b3 := HST.out.box 3 _ rfl
          have hlk := Lib.hid (KV.out _ HST.out.vs)
          have f7 := HST.out.fcell (k := 7) (by omega)
          have g7 := HST.out.free 7
          clear hk1
          cases hv : Ck.hasS vars nm
          · rw [hv] at hlk
            have HV := Lib.hid hv
            clear hv
            go_wp2_with fail
            refine hlk.out.mono ?_
            rintro e w2 ⟨rfl, rfl⟩
            have HS1 := Lib.hid (HST.out.set (k := 7) (by omega))
            go_wp2_with fail
            go_end0
            exact ⟨rfl, rfin HS1.out (fun t => by unfold Ck.ownE; rw [if_pos rfl, HV.out]; simp)⟩
          · rw [hv] at hlk
            have HV := Lib.hid hv
            clear hv
            go_wp2_with fail
            refine hlk.out.mono ?_
            rintro e w2 ⟨rfl, rfl⟩
            go_wp2_with fail
            go_end0
            exact ⟨rfl, rfin HST.out (fun t => by unfold Ck.ownE; rw [if_pos rfl, HV.out]; simp)⟩
        · by_cases h5 : k = 5
          · subst h5
            have hat1 : at_ = true → 0 < j := okE_5 HOK.out
            clear hk1 h3
            have b3 := HST.out.box 3 _ rfl
            have b4 := HST.out.box 4 _ rfl
            have q0 := HST.out.find.cell (j := 0) (u := .slice pv CN cpv) rfl
            cases hcl : Ck.classAt cs nm with
            | none =>
              rw [hcl] at KCL
              simp only [Option.getD_none, Option.isSome_none] at KCL
              have HCL := Lib.hid hcl
              clear hcl
              cases at_
              · skip
                clear hat1
                go_wp2_with fail
                go_region_held3 (fun w' => w'.cell? ⟨P, 0, none⟩ = some (.slice pv CN cpv) ∧ w'.cell? ⟨w.heap.size, 3, none⟩ = some (.string nm) ∧ Hid (RSt w P FB w.heap.size (.slice pv CN cpv) c (.slice pf FN cf) mv (.slice pvv VN cvv) vars #[.int .i64 5, .int .i64 o, .int .i64 i, .string nm, .bool false, .slice p j c5] (fun t => f t || Ck.faultEs cs c.fields vars l t) w')) (first | exact rst_keep (by assumption) hb | exact ⟨q0, b3, HST⟩ | exact ⟨q0, b3, Lib.hid HST.out.drew⟩ | go_keep) (first | (go_at_call 19; (with_reducible refine (KCL.out _ (rst_below HBW.out hP0 (by assumption))).mono ?_); rintro e w' ⟨rfl, hb⟩))
                have HL0 := Lib.hid (rst_of (by assumption))
                clear b0 b3 b4 b5 q0 q5
                have q5 := HL0.out.find.cell (j := 5) (u := .slice (some ⟨FB, 0, none⟩) 13 13) rfl
                have b4 := HL0.out.box 4 _ rfl
                have b5 := HL0.out.box 5 _ rfl
                have f8 := HL0.out.fcell (k := 8) (by omega)
                have g8 := HL0.out.free 8
                have HS1 := Lib.hid (HL0.out.set (k := 8) (by omega))
                go_wp2_with fail
                go_end0
                exact ⟨rfl, rfin HS1.out (fun t => by unfold Ck.ownE; rw [if_neg (by decide), if_neg (by decide), if_pos rfl, HCL.out])⟩
              · skip
                have hat2 := hat1 rfl
                clear hat1
                go_wp2_with fail
                go_region_held3 (fun w' => w'.cell? ⟨P, 0, none⟩ = some (.slice pv CN cpv) ∧ w'.cell? ⟨w.heap.size, 3, none⟩ = some (.string nm) ∧ Hid (RSt w P FB w.heap.size (.slice pv CN cpv) c (.slice pf FN cf) mv (.slice pvv VN cvv) vars #[.int .i64 5, .int .i64 o, .int .i64 i, .string nm, .bool true, .slice p j c5] (fun t => f t || Ck.faultEs cs c.fields vars l t) w')) (first | exact rst_keep (by assumption) hb | exact ⟨q0, b3, HST⟩ | exact ⟨q0, b3, Lib.hid HST.out.drew⟩ | go_keep) (first | (go_at_call 19; (with_reducible refine (KCL.out _ (rst_below HBW.out hP0 (by assumption))).mono ?_); rintro e w' ⟨rfl, hb⟩))
                have HL0 := Lib.hid (rst_of (by assumption))
                clear b0 b3 b4 b5 q0 q5
                have q5 := HL0.out.find.cell (j := 5) (u := .slice (some ⟨FB, 0, none⟩) 13 13) rfl
                have b4 := HL0.out.box 4 _ rfl
                have b5 := HL0.out.box 5 _ rfl
                have f8 := HL0.out.fcell (k := 8) (by omega)
                have g8 := HL0.out.free 8
                have HS1 := Lib.hid (HL0.out.set (k := 8) (by omega))
                go_wp2_with fail
                go_end0
                exact ⟨rfl, rfin HS1.out (fun t => by unfold Ck.ownE; rw [if_neg (by decide), if_neg (by decide), if_pos rfl, HCL.out])⟩
            | some q =>
              rw [hcl] at KCL
              simp only [Option.getD_some, Option.isSome_some] at KCL
              have hql := find_lt hcl
              obtain ⟨cc, hq⟩ : ∃ x, cs[q]? = some x := ⟨_, List.getElem?_eq_getElem hql⟩
              obtain ⟨b, oo, vf, vm, rfl, hblt, hc, hnmc, hsf, hsm⟩ := HCS.out.get hq
              obtain ⟨pf2, cf2, rfl⟩ := hsf.form
              obtain ⟨FL, hFL⟩ : ∃ N, cc.fields.length = N := ⟨_, rfl⟩
              have HC2 := Lib.hid hc.2.2.1
              rw [hFL] at HC2
              have hfl := hsf.len
              unfold maxLen at hfl
              rw [hFL] at hfl
              have HFL := Lib.hid hFL
              have HCL := Lib.hid hcl
              have hi := Lib.hid hq
              rw [HCN.out] at hql
              clear hcl hq hc hnmc hsf hsm hFL
              cases at_
              · skip
                clear hat1
                by_cases hgt : FL < j
                · skip
                  go_wp2_with fail
                  go_region_held3 (fun w' => w'.cell? ⟨P, 0, none⟩ = some (.slice (some ⟨b, oo, none⟩) CN cpv) ∧ w'.cell? ⟨w.heap.size, 3, none⟩ = some (.string nm) ∧ Hid (RSt w P FB w.heap.size (.slice (some ⟨b, oo, none⟩) CN cpv) c (.slice pf FN cf) mv (.slice pvv VN cvv) vars #[.int .i64 5, .int .i64 o, .int .i64 i, .string nm, .bool false, .slice p j c5] (fun t => f t || Ck.faultEs cs c.fields vars l t) w')) (first | exact rst_keep (by assumption) hb | exact ⟨q0, b3, HST⟩ | exact ⟨q0, b3, Lib.hid HST.out.drew⟩ | go_keep) (first | (go_at_call 19; (with_reducible refine (KCL.out _ (rst_below HBW.out hP0 (by assumption))).mono ?_); rintro e w' ⟨rfl, hb⟩))
                  have HL0 := Lib.hid (rst_of (by assumption))
                  clear b0 b3 b4 b5 q0 q5
                  have q5 := HL0.out.find.cell (j := 5) (u := .slice (some ⟨FB, 0, none⟩) 13 13) rfl
                  have b4 := HL0.out.box 4 _ rfl
                  have b5 := HL0.out.box 5 _ rfl
                  have q0 := HL0.out.find.cell (j := 0) (u := .slice (some ⟨b, oo, none⟩) CN cpv) rfl
                  have HB3 := Lib.hid (grown_below HBW.out HL0.out.grown hP0)
                  have z2 := cell_keep' HB3.out HC2.out
                  have f9 := HL0.out.fcell (k := 9) (by omega)
                  have g9 := HL0.out.free 9
                  have HS1 := Lib.hid (HL0.out.set (k := 9) (by omega))
                  go_wp2_with fail
                  go_end0
                  exact ⟨rfl, rfin HS1.out (fun t => by rw [own_new HCL.out hi.out, HFL.out, HN.out, if_neg (by decide), decide_eq_true (p := (FL : Int) < (j : Int) - 0) (by omega)]; simp)⟩
                · skip
                  go_wp2_with fail
                  go_region_held3 (fun w' => w'.cell? ⟨P, 0, none⟩ = some (.slice (some ⟨b, oo, none⟩) CN cpv) ∧ w'.cell? ⟨w.heap.size, 3, none⟩ = some (.string nm) ∧ Hid (RSt w P FB w.heap.size (.slice (some ⟨b, oo, none⟩) CN cpv) c (.slice pf FN cf) mv (.slice pvv VN cvv) vars #[.int .i64 5, .int .i64 o, .int .i64 i, .string nm, .bool false, .slice p j c5] (fun t => f t || Ck.faultEs cs c.fields vars l t) w')) (first | exact rst_keep (by assumption) hb | exact ⟨q0, b3, HST⟩ | exact ⟨q0, b3, Lib.hid HST.out.drew⟩ | go_keep) (first | (go_at_call 19; (with_reducible refine (KCL.out _ (rst_below HBW.out hP0 (by assumption))).mono ?_); rintro e w' ⟨rfl, hb⟩))
                  have HL0 := Lib.hid (rst_of (by assumption))
                  clear b0 b3 b4 b5 q0 q5
                  have q5 := HL0.out.find.cell (j := 5) (u := .slice (some ⟨FB, 0, none⟩) 13 13) rfl
                  have b4 := HL0.out.box 4 _ rfl
                  have b5 := HL0.out.box 5 _ rfl
                  have q0 := HL0.out.find.cell (j := 0) (u := .slice (some ⟨b, oo, none⟩) CN cpv) rfl
                  have HB3 := Lib.hid (grown_below HBW.out HL0.out.grown hP0)
                  have z2 := cell_keep' HB3.out HC2.out
                  go_wp2_with fail
                  go_end0
                  exact ⟨rfl, rfin HL0.out (fun t => by rw [own_new HCL.out hi.out, HFL.out, HN.out, if_neg (by decide), decide_eq_false (p := (FL : Int) < (j : Int) - 0) (by omega)]; simp)⟩
              · skip
                have hat2 := hat1 rfl
                clear hat1
                by_cases hgt : FL + 1 < j
                · skip
                  go_wp2_with fail
                  go_region_held3 (fun w' => w'.cell? ⟨P, 0, none⟩ = some (.slice (some ⟨b, oo, none⟩) CN cpv) ∧ w'.cell? ⟨w.heap.size, 3, none⟩ = some (.string nm) ∧ Hid (RSt w P FB w.heap.size (.slice (some ⟨b, oo, none⟩) CN cpv) c (.slice pf FN cf) mv (.slice pvv VN cvv) vars #[.int .i64 5, .int .i64 o, .int .i64 i, .string nm, .bool true, .slice p j c5] (fun t => f t || Ck.faultEs cs c.fields vars l t) w')) (first | exact rst_keep (by assumption) hb | exact ⟨q0, b3, HST⟩ | exact ⟨q0, b3, Lib.hid HST.out.drew⟩ | go_keep) (first | (go_at_call 19; (with_reducible refine (KCL.out _ (rst_below HBW.out hP0 (by assumption))).mono ?_); rintro e w' ⟨rfl, hb⟩))
                  have HL0 := Lib.hid (rst_of (by assumption))
                  clear b0 b3 b4 b5 q0 q5
                  have q5 := HL0.out.find.cell (j := 5) (u := .slice (some ⟨FB, 0, none⟩) 13 13) rfl
                  have b4 := HL0.out.box 4 _ rfl
                  have b5 := HL0.out.box 5 _ rfl
                  have q0 := HL0.out.find.cell (j := 0) (u := .slice (some ⟨b, oo, none⟩) CN cpv) rfl
                  have HB3 := Lib.hid (grown_below HBW.out HL0.out.grown hP0)
                  have z2 := cell_keep' HB3.out HC2.out
                  have f9 := HL0.out.fcell (k := 9) (by omega)
                  have g9 := HL0.out.free 9
                  have HS1 := Lib.hid (HL0.out.set (k := 9) (by omega))
                  go_wp2_with fail
                  go_end0
                  exact ⟨rfl, rfin HS1.out (fun t => by rw [own_new HCL.out hi.out, HFL.out, HN.out, if_pos rfl, decide_eq_true (p := (FL : Int) < (j : Int) - 1) (by omega)]; simp)⟩
                · skip
                  go_wp2_with fail
                  go_region_held3 (fun w' => w'.cell? ⟨P, 0, none⟩ = some (.slice (some ⟨b, oo, none⟩) CN cpv) ∧ w'.cell? ⟨w.heap.size, 3, none⟩ = some (.string nm) ∧ Hid (RSt w P FB w.heap.size (.slice (some ⟨b, oo, none⟩) CN cpv) c (.slice pf FN cf) mv (.slice pvv VN cvv) vars #[.int .i64 5, .int .i64 o, .int .i64 i, .string nm, .bool true, .slice p j c5] (fun t => f t || Ck.faultEs cs c.fields vars l t) w')) (first | exact rst_keep (by assumption) hb | exact ⟨q0, b3, HST⟩ | exact ⟨q0, b3, Lib.hid HST.out.drew⟩ | go_keep) (first | (go_at_call 19; (with_reducible refine (KCL.out _ (rst_below HBW.out hP0 (by assumption))).mono ?_); rintro e w' ⟨rfl, hb⟩))
                  have HL0 := Lib.hid (rst_of (by assumption))
                  clear b0 b3 b4 b5 q0 q5
                  have q5 := HL0.out.find.cell (j := 5) (u := .slice (some ⟨FB, 0, none⟩) 13 13) rfl
                  have b4 := HL0.out.box 4 _ rfl
                  have b5 := HL0.out.box 5 _ rfl
                  have q0 := HL0.out.find.cell (j := 0) (u := .slice (some ⟨b, oo, none⟩) CN cpv) rfl
                  have HB3 := Lib.hid (grown_below HBW.out HL0.out.grown hP0)
                  have z2 := cell_keep' HB3.out HC2.out
                  go_wp2_with fail
                  go_end0
                  exact ⟨rfl, rfin HL0.out (fun t => by rw [own_new HCL.out hi.out, HFL.out, HN.out, if_pos rfl, decide_eq_false (p := (FL : Int) < (j : Int) - 1) (by omega)]; simp)⟩
          · by_cases h4 : k = 4
            · subst h4
              have hN1 := okE_4 HOK.out
              obtain ⟨x0, hx0⟩ : ∃ x, l[0]? = some x := ⟨_, List.getElem?_eq_getElem (by rw [HN.out]; omega)⟩
              obtain ⟨b, oo, aa, rfl, hblt, hc, hbd, hsl⟩ := HS.out.get hx0
              rw [Nat.zero_mul, Nat.add_zero] at hc
              have y0 := (hc.keep HBR.out).1
              have hhead : Hid (Ck.headKind l = x0.kind) := by
                show _ = _
                cases hl : l with
                | nil => rw [hl] at hx0; cases hx0
                | cons z r => rw [hl] at hx0; cases hx0; rfl
              have hN0 : (0 : Int) < (j : Int) := by omega
              clear hx0 hc hbd hsl hk1 h3 h5
              have b3 := HST.out.box 3 _ rfl
              have q3 := HST.out.find.cell (j := 3) (u := .slice pf FN cf) rfl
              have f10 := HST.out.fcell (k := 10) (by omega)
              have g10 := HST.out.free 10
              by_cases hth : x0.kind = 2
              · have hth1 : (x0.kind == 2) = true := beq_iff_eq.2 hth
                have HTH := Lib.hid hth
                clear hth
                cases hv : Ck.hasS c.fields nm
                · rw [hv] at KC
                  have HV := Lib.hid hv
                  clear hv
                  go_wp2_with fail
                  go_quiet ((go_at_call 42; exact Calls.quiet_of_same (KC.out _ (by first | exact HBR.out | exact HBR.out.drew | exact HBR.out.drew.drew | exact quietB HBR.out))))
                  have HQ := Lib.hid (HST.out.drewN nq)
                  clear b0 b3 b5 q3 q5 y0 f10 g10 hth1
                  have q5 := HQ.out.find.cell (j := 5) (u := .slice (some ⟨FB, 0, none⟩) 13 13) rfl
                  have f10 := HQ.out.fcell (k := 10) (by omega)
                  have g10 := HQ.out.free 10
                  have HS1 := Lib.hid (HQ.out.set (k := 10) (by omega))
                  go_wp2_with fail
                  go_end0
                  exact ⟨rfl, rfin HS1.out (fun t => by unfold Ck.ownE; rw [if_neg (by decide), if_pos rfl, hhead.out, decide_eq_true HTH.out, HV.out]; simp)⟩
                · rw [hv] at KC
                  have HV := Lib.hid hv
                  clear hv
                  go_wp2_with fail
                  go_quiet ((go_at_call 42; exact Calls.quiet_of_same (KC.out _ (by first | exact HBR.out | exact HBR.out.drew | exact HBR.out.drew.drew | exact quietB HBR.out))))
                  have HQ := Lib.hid (HST.out.drewN nq)
                  clear b0 b3 b5 q3 q5 y0 f10 g10 hth1
                  have q5 := HQ.out.find.cell (j := 5) (u := .slice (some ⟨FB, 0, none⟩) 13 13) rfl
                  have f10 := HQ.out.fcell (k := 10) (by omega)
                  have g10 := HQ.out.free 10
                  go_wp2_with fail
                  go_end0
                  exact ⟨rfl, rfin HQ.out (fun t => by unfold Ck.ownE; rw [if_neg (by decide), if_pos rfl, hhead.out, decide_eq_true HTH.out, HV.out]; simp)⟩
              · have hth1 : (x0.kind == 2) = false := beq_eq_false_iff_ne.2 hth
                have HTH := Lib.hid hth
                clear hth
                go_wp2_with fail
                go_quiet (fail)
                have HQ := Lib.hid (HST.out.drewN nq)
                clear b0 b3 b5 q3 q5 y0 f10 g10 hth1
                go_wp2_with fail
                go_end0
                exact ⟨rfl, rfin HQ.out (fun t => by unfold Ck.ownE; rw [if_neg (by decide), if_pos rfl, hhead.out, decide_eq_false HTH.out]; simp)⟩
            · have h3b : (k == 3) = false := beq_eq_false_iff_ne.2 h3
              have h4b : (k == 4) = false := beq_eq_false_iff_ne.2 h4
              have h5b : (k == 5) = false := beq_eq_false_iff_ne.2 h5
              have hown : Hid (∀ t, Ck.ownE cs c.fields vars k nm at_ l t = false) := fun t => by unfold Ck.ownE; rw [if_neg h3, if_neg h4, if_neg h5]
              clear h3 h4 h5 hk1
              go_wp2_with fail
              go_end0
              exact ⟨rfl, rfin HST.out (fun t => by rw [hown.out, Bool.or_false])⟩
end Go.Proofs.YtdafdbjdnebnfaaGreatDoor
