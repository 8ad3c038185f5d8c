/-
  CheckerReverses, walked.
-/
import Derived.Test.YtdafdbjdnebnfaaGreatDoorCkLawGrows
import Derived.Deep.RegionLaw
namespace Go.Proofs.YtdafdbjdnebnfaaGreatDoor
open Go.RowKit Go.Maps

theorem Ck.cnt_rev (l : List Tr.C) : Ck.cnt l.reverse = Ck.cnt l := by
  induction l with
  | nil => rfl
  | cons x r ih => rw [List.reverse_cons, Ck.cnt_app, ih, Ck.cnt, Ck.cnt, Ck.cnt]; omega
theorem Ck.small_rev {cs : List Tr.C} (h : Ck.Small cs) : Ck.Small cs.reverse := ⟨fun c hc => h.all c (List.mem_reverse.1 hc), by rw [Ck.cnt_rev]; exact h.cnt⟩
theorem Tr.fit_rev {cs : List Tr.C} (h : Tr.fitP cs) : Tr.fitP cs.reverse := fun c hc => h c (List.mem_reverse.1 hc)
theorem Ck.check_rev {cs : List Tr.C} (h : Ck.check cs = []) : Ck.check cs.reverse = [] := by
  rw [Ck.check_nil] at h ⊢
  exact ⟨Ck.valid_rev h.1, Ck.reverses h.2⟩
theorem step_append_src {P : Program} {α : Type} (f : α → List Value) (k : Nat) (hf : ∀ a, (f a).length = k) {ops : Array Oper} {E : Prop}
    {w : World} {o : Oper} {a : Act} {K : Act → World → Prop} {Q : Exit → Act → World → Prop} (hgd : o.guard = none) (s x : Operand) (t : TypeId)
    (ho : o.op = .call { callee := .builtin .append, args := #[s, x], argTypes := #[t, t] })
    (base : Nat) (e : TypeId) (i : TypeInfo) (z : Value) (bytes : Nat) (ht : P.underlying t = some (.slice e)) (hi : P.info? e = some i) (hz : i.zero = some z)
    (hsize : i.size = k) (hby : i.bytes = bytes) (hzs : z.cells.size = k) (hsz : 0 < k)
    (v v2 : Value) (tr news : List α) (hs : a.eval s = v) (hx : a.eval x = v2) (hown : w.ownsRow base e k v tr.length (flatV f tr)) (hsrc : SrcAt w f v2 news) (h1 : ∀ a ∈ news, ∀ u ∈ f a, u.oneCell' = true)
    (h63 : tr.length + news.length ≤ maxLen) (hbytes : (tr.length + news.length) * bytes ≤ 140737488355328) (hbase : base ≤ w.heap.size)
    (h : ∀ v' w', w'.ownsRow base e k v' (tr ++ news).length (flatV f (tr ++ news)) → w.grownBy w' v.ownBlock → K (a.put o.dst v') w') :
    if Region.wanted o (yielded ops a.tmps) = true then Oper.wp P o a w K Q else E := by
  have hw : Region.wanted o (yielded ops a.tmps) = true := by simp [Region.wanted, hgd]
  rw [if_pos hw]
  exact wp_append_src f k hf s x t ho base e i z bytes ht hi hz hsize hby hzs hsz v v2 tr news hs hx hown hsrc h1 h63 hbytes hbase h
/-- the program under way: its block, the classes that are in it -/
structure RvSt (w : World) (QB : Nat) (qv : Value) (tr : List CT) (W : World) : Prop where
  qb : W.heap[QB]? = some (.cells #[qv] 24 (0, 0))
  own : W.ownsRow w.heap.size 36 4 qv tr.length (flatV cCells tr)
  below : Below w.heap.size w W
  hQ : w.heap.size ≤ QB
section
variable {w : World} {QB : Nat} {qv : Value} {tr : List CT} {W W' : World}
theorem RvSt.keep (h : RvSt w QB qv tr W) (hb : Below W.heap.size W W') : RvSt w QB qv tr W' := ⟨(hb.block QB (lt_of_block h.qb)).trans h.qb, own_below h.own hb, below_next h.below hb, h.hQ⟩
theorem RvSt.ne (h : RvSt w QB qv tr W) : some QB ≠ qv.ownBlock := fun e => by
  obtain ⟨_, cur, hc⟩ := own_ge h.own e.symm
  have := h.qb.symm.trans hc
  simp only [Option.some.injEq, Obj.cells.injEq] at this
  exact absurd this.2.1 (by decide)
theorem RvSt.qb2 (h : RvSt w QB qv tr W) (hg : W.grownBy W' qv.ownBlock) : W'.heap[QB]? = some (.cells #[qv] 24 (0, 0)) := (hg.block QB (lt_of_block h.qb) h.ne).trans h.qb
theorem RvSt.app (h : RvSt w QB qv tr W) {x : CT} {v' : Value} (ho : W'.ownsRow w.heap.size 36 4 v' (tr ++ [x]).length (flatV cCells (tr ++ [x]))) (hg : W.grownBy W' qv.ownBlock) : RvSt w QB v' (tr ++ [x]) (W'.setCell ⟨QB, 0, none⟩ v') := by
  have hq := h.qb2 hg
  have hgs := grown_setCell W' QB 0 v'
  refine ⟨?_, ho.kept hgs ?_, ?_, h.hQ⟩
  · have := heap_set (j := 0) v' hq
    simpa using this
  · cases hv : v'.ownBlock with
    | none => exact .inl rfl
    | some q =>
      right
      intro e
      cases e
      obtain ⟨_, cur, hc⟩ := own_ge ho hv
      have := hq.symm.trans hc
      simp only [Option.some.injEq, Obj.cells.injEq] at this
      exact absurd this.2.1 (by decide)
  · have h1 := h.below.grown hg h.below.size (fun q hq => (own_ge h.own hq).1)
    exact h1.grown hgs h1.size (fun q hq => by cases hq; exact h.hQ)
end

set_option maxRecDepth 100000 in
set_option maxHeartbeats 20000000 in
theorem law_reverses (v : Value) (cs : List Tr.C) (w : World) (hE : CkEnv w) (h : SlC w v cs) :
    Calls Tryz.prog 7 #[.agg #[v]] w fun e w' => e = .returned (.bool true) ∧ Below w.heap.size w w' := by
  obtain ⟨i0, hi0, hz0, hz1, hz2⟩ := info_parts classInfo
  have HE := Lib.hid hE
  have HS := Lib.hid h
  obtain ⟨rows, hrows, hread, hsrc⟩ := h.rows
  obtain ⟨pv, cpv, rfl⟩ := h.form
  obtain ⟨CN, hCN⟩ : ∃ q, cs.length = q := ⟨_, rfl⟩
  rw [hCN] at HS hsrc ⊢
  have hRN : rows.length = CN := by rw [← hCN, ← hrows, List.length_map]
  have hbx := below_box w (.cells #[.slice pv CN cpv] 24)
  have hbx2 := below_box (w.alloc (.cells #[.slice pv CN cpv] 24)) (.cells #[.slice pv CN cpv] 24)
  have hB2 := Lib.hid (below_next hbx hbx2)
  have hg := box_cell (w.alloc (.cells #[.slice pv CN cpv] 24)) #[.slice pv CN cpv] 24 0 _ rfl
  have c0 := cell_keep' hbx2 (box_cell w #[.slice pv CN cpv] 24 0 _ rfl)
  simp only [World.size_alloc] at hg
  have KF := Lib.hid (lawFew_any _ cs _ _ 1 hg (HS.out.keep hB2.out))
  have KA : Hid (∀ W, Below w.heap.size w W → Calls Tryz.prog 14 #[] W fun e w' => e = .returned (.bool true) ∧ Below W.heap.size W w') := fun W hb => awake40_any W (HE.out.keep hb)
  have C0 := Lib.hid c0
  have HCELL : Hid (∀ (J : Nat) (c : Tr.C) (a1 a2 : Value), rows[J]? = some (c, a1, a2) → ∃ b oo, pv = some ⟨b, oo, none⟩ ∧ w.cell? ⟨b, oo + J * 4, none⟩ = some (.string c.name) ∧ w.cell? ⟨b, oo + J * 4 + 1, none⟩ = some (.bool c.actor) ∧ w.cell? ⟨b, oo + J * 4 + 2, none⟩ = some a1 ∧ w.cell? ⟨b, oo + J * 4 + 3, none⟩ = some a2) := by
    intro J c a1 a2 hJ
    rcases hsrc with ⟨rfl, _⟩ | ⟨b, o, k, e, hc⟩
    · simp at hJ
    · injection e with e1 e2 e3
      refine ⟨b, o, e1, ?_⟩
      have key : ∀ i u, i < 4 → (cCells (c, a1, a2))[i]? = some u → w.cell? ⟨b, o + (J * 4 + i), none⟩ = some u := fun i u hi hu => hc _ _ ((flatV_get cCells 4 cCells_len rows J _ i hi hJ).trans hu)
      exact ⟨key 0 _ (by omega) rfl, key 1 _ (by omega) rfl, key 2 _ (by omega) rfl, key 3 _ (by omega) rfl⟩
  have HSRC := Lib.hid hsrc
  have HREAD := Lib.hid hread
  have HROWS := Lib.hid hrows
  have HRN := Lib.hid hRN
  have HCN := Lib.hid hCN
  clear hE h hCN hbx hbx2 hg c0 hsrc hread hrows hRN
  cases hq : Tr.fewP cs 300
  · rw [hq] at KF
    clear hq
    go_enter Tryz.func7, Tryz.ntmps7
    go_wp2_with fail
    refine KF.out.mono ?_
    rintro e w2 ⟨rfl, hb2⟩
    have hB3 := Lib.hid (below_next hB2.out hb2)
    have C3 := Lib.hid (cell_keep' hb2 C0.out)
    have c3 := C3.out
    clear hb2
    clear c3
    go_wp2_with fail
    refine (KA.out _ hB3.out).mono ?_
    rintro e w9 ⟨rfl, hb9⟩
    go_wp2_with fail
    go_ret
    exact ⟨rfl, below_next hB3.out hb9⟩
  · have hsm := Ck.small_of hq (by decide)
    have hfit := Tr.fitP_of hq (by decide)
    rw [hq] at KF
    have hcl := Nat.le_trans (len_cnt cs) hsm.cnt
    rw [HCN.out] at hcl
    have HSMR := Lib.hid (Ck.small_rev hsm)
    have HFITR := Lib.hid (Tr.fit_rev hfit)
    have KC : Hid (∀ W, Below w.heap.size w W → Calls Tryz.prog 12 #[.agg #[.slice pv CN cpv]] W (CheckPost cs W)) := fun W hb => check_any _ cs W (HE.out.keep hb) (HS.out.keep hb) hsm hfit
    obtain ⟨LR, hlr⟩ : ∃ q, (Ck.check cs).length = q := ⟨_, rfl⟩
    have hlr := Lib.hid hlr
    clear hq hsm hfit
    by_cases hbad : 0 < LR
    · go_enter Tryz.func7, Tryz.ntmps7
      go_wp2_with fail
      refine KF.out.mono ?_
      rintro e w2 ⟨rfl, hb2⟩
      have hB3 := Lib.hid (below_next hB2.out hb2)
      have C3 := Lib.hid (cell_keep' hb2 C0.out)
      have c3 := C3.out
      clear hb2
      go_wp2_with fail
      refine (KC.out _ hB3.out).mono ?_
      rintro e w3 ⟨lv, rfl, ho3, hb3⟩
      rw [hlr.out] at ho3
      obtain ⟨pl, cl, rfl⟩ := own_form ho3
      have hB4 := Lib.hid (below_next hB3.out hb3)
      have C4 := Lib.hid (cell_keep' hb3 C3.out)
      have c4 := C4.out
      clear hb3 ho3 c3
      clear c4
      go_wp2_with fail
      refine (KA.out _ hB4.out).mono ?_
      rintro e w9 ⟨rfl, hb9⟩
      go_wp2_with fail
      go_ret
      exact ⟨rfl, below_next hB4.out hb9⟩
    · obtain rfl : LR = 0 := by omega
      have hck : Hid (Ck.check cs.reverse = []) := Ck.check_rev (List.eq_nil_of_length_eq_zero hlr.out)
      clear hbad
      go_enter Tryz.func7, Tryz.ntmps7
      go_wp2_with fail
      refine KF.out.mono ?_
      rintro e w2 ⟨rfl, hb2⟩
      have hB3 := Lib.hid (below_next hB2.out hb2)
      have C3 := Lib.hid (cell_keep' hb2 C0.out)
      have c3 := C3.out
      clear hb2
      go_wp2_with fail
      refine (KC.out _ hB3.out).mono ?_
      rintro e w3 ⟨lv, rfl, ho3, hb3⟩
      rw [hlr.out] at ho3
      obtain ⟨pl, cl, rfl⟩ := own_form ho3
      have hB4 := Lib.hid (below_next hB3.out hb3)
      have C4 := Lib.hid (cell_keep' hb3 C3.out)
      have c4 := C4.out
      clear hb3 ho3 c3
      have hl4 := cell_lt' c4
      have hbq := below_box w3 (.cells #[.slice none 0 0] 24)
      obtain ⟨QB, hQB⟩ : ∃ q, w3.heap.size = q := ⟨_, rfl⟩
      obtain ⟨w4, hw4⟩ : ∃ q, q = w3.alloc (.cells #[.slice none 0 0] 24) := ⟨_, rfl⟩
      have HR0 : Hid (RvSt w3 QB (.slice none 0 0) [] w4) := by
        have h1 := (MapKept.heap_alloc w3 (.cells #[.slice none 0 0] 24)).1
        rw [← hw4, hQB] at h1
        rw [← hw4] at hbq
        exact Lib.hid ⟨h1, World.ownsRow_nil _ _ _ _, hbq, by omega⟩
      have HW4 := Lib.hid hw4
      have HQB := Lib.hid hQB
      clear hw4 hQB hbq
      have b1 : IntKind.i64.wrap ((CN : Int) - 1) = (CN : Int) - 1 := IntWalk.i64_in _ (by omega)
      have hqne : Hid (Below w.heap.size w w3) := hB4
      go_upto_region 4 with fail
      rw [← HW4.out, HQB.out]
      have c5 := cell_keep' (HR0.out.below) C4.out
      have hl5 := cell_lt' c5
      go_wp2_with fail
      go_loopg [4] CN (fun g s4 wr => ∃ (j : Nat) (I : Int), s4 = .int .i64 I ∧ I = (CN : Int) - 1 - (j : Int) ∧ j ≤ CN ∧ g = CN - j ∧ ∃ qv, Hid (RvSt w3 QB qv (rows.reverse.take j) wr))
      case atStart => exact ⟨0, _, rfl, by simp, Nat.zero_le _, rfl, _, HR0⟩
      case round =>
        obtain ⟨j, I, rfl, hI, hj, rfl, qv, HST⟩ := hrel
        clear HR0 HW4 c5 hl5 b1
        have c5 := cell_keep' HST.out.below C4.out
        have q0 := cell_of_blk HST.out.qb (j := 0) (u := qv) rfl
        by_cases hlt : j < CN
        · obtain ⟨x, hx⟩ : ∃ x, rows.reverse[j]? = some x := ⟨_, List.getElem?_eq_getElem (by rw [List.length_reverse, HRN.out]; exact hlt)⟩
          have hx2 : rows[CN - 1 - j]? = some x := by rw [List.getElem?_reverse (by rw [HRN.out]; exact hlt), HRN.out] at hx; exact hx
          have hrd := HREAD.out x (List.mem_of_getElem? hx2)
          have hcx : cs[CN - 1 - j]? = some x.1 := by rw [← HROWS.out, List.getElem?_map, hx2]; rfl
          obtain ⟨c, a1, a2⟩ := x
          have HX := Lib.hid hx
          obtain ⟨J, hJ⟩ : ∃ q, CN - 1 - j = q := ⟨_, rfl⟩
          obtain rfl : I = (J : Int) := by omega
          rw [hJ] at hx2 hcx
          have hB4R := Lib.hid (below_next hB4.out HST.out.below)
          obtain ⟨_, hsf, hsm⟩ : ReadC w c a1 a2 := hrd
          obtain ⟨pf, cf, rfl⟩ := hsf.form
          obtain ⟨pm, cm, rfl⟩ := hsm.form
          obtain ⟨FN, hFN⟩ : ∃ q, c.fields.length = q := ⟨_, rfl⟩
          obtain ⟨MN, hMN⟩ : ∃ q, c.methods.length = q := ⟨_, rfl⟩
          have hcells := HCELL.out J c _ _ hx2
          rw [hFN, hMN] at hcells
          rw [hFN, hMN] at HX
          obtain ⟨b, oo, rfl, y0, y1, y2, y3⟩ := hcells
          have y0 := cell_keep' hB4R.out y0
          have y1 := cell_keep' hB4R.out y1
          have y2 := cell_keep' hB4R.out y2
          have y3 := cell_keep' hB4R.out y3
          have b3 : (J : Int) < (CN : Int) := by omega
          have b0 : (0 : Int) ≤ (J : Int) := by omega
          have b1 : IntKind.i64.wrap ((J : Int) - 1) = (J : Int) - 1 := IntWalk.i64_in _ (by omega)
          have htl : (rows.reverse.take j).length = j := by rw [List.length_take, List.length_reverse, HRN.out]; omega
          have HTL := Lib.hid htl
          obtain ⟨po, co, rfl⟩ := own_form HST.out.own
          rw [htl] at HST q0
          have hone : Hid (∀ a ∈ [((c, .slice pf FN cf, .slice pm MN cm) : CT)], ∀ u ∈ cCells a, u.oneCell' = true) := by
            intro a ha u hu
            obtain rfl := List.mem_singleton.1 ha
            simp only [cCells, List.mem_cons, List.not_mem_nil, or_false] at hu
            rcases hu with rfl | rfl | rfl | rfl <;> rfl
          have HLa := Lib.hid (SrcAt.lit (f := cCells) wr (c, .slice pf FN cf, .slice pm MN cm) 36 #[.string c.name, .bool c.actor, .slice pf FN cf, .slice pm MN cm] rfl 1)
          have HLb := Lib.hid (SrcAt.lit (f := cCells) wr.drew (c, .slice pf FN cf, .slice pm MN cm) 36 #[.string c.name, .bool c.actor, .slice pf FN cf, .slice pm MN cm] rfl 1)
          have hl1 := cell_lt' y0
          have hl2 := cell_lt' c5
          have hl3 := cell_lt' q0
          have hI2 : (J : Int) - 1 = (CN : Int) - 1 - ((j + 1 : Nat) : Int) := by omega
          have HI2 := Lib.hid hI2
          clear hx hx2 hcx hJ hI hsf hsm hFN hMN htl hI2
          go_wp2_with fail
          go_region_law ((refine step_append_src cCells 4 cCells_len (by rfl) _ _ 22 (by rfl) w3.heap.size 36 i0 (.agg #[.string ⟨#[]⟩, .bool false, .slice none 0 0, .slice none 0 0]) 72 Tryz.underlying22 hi0 hz0 hz1 hz2 (by rfl) (by decide) _ _ (rows.reverse.take j) [(c, .slice pf FN cf, .slice pm MN cm)] (by rfl) (by rfl) (own_below HST.out.own (by (repeat' (first | (with_reducible exact Below.refl _ _) | (with_reducible refine Below.drew ?_) | (with_reducible refine Below.alloc ?_ ?_ _))) <;> simp)) (by first | exact HLa.out | exact HLb.out | exact HLa.out.keep (Below.refl _ _).drew | exact HLb.out.keep (Below.refl _ _).drew) hone.out (by rw [HTL.out]; unfold maxLen; simp; omega) (by rw [HTL.out]; simp; omega) (by have := HST.out.below.size; simp <;> omega) ?_); intro v7 w7 ho7 hg7; have HR7 := Lib.hid ((HST.out.keep (by (repeat' (first | (with_reducible exact Below.refl _ _) | (with_reducible refine Below.drew ?_) | (with_reducible refine Below.alloc ?_ ?_ _))) <;> simp)).app ho7 hg7); have hk7 := (HST.out.keep (by (repeat' (first | (with_reducible exact Below.refl _ _) | (with_reducible refine Below.drew ?_) | (with_reducible refine Below.alloc ?_ ?_ _))) <;> simp)).qb2 hg7; obtain ⟨p7, k7, rfl⟩ := own_form ho7; rw [show (rows.reverse.take j ++ [((c, .slice pf FN cf, .slice pm MN cm) : CT)]).length = j + 1 by rw [List.length_append, HTL.out]; rfl] at HR7 ⊢; have f7 := cell_of_blk hk7 (j := 0) (u := .slice po j co) rfl; have g7 : w7.frozen? ⟨QB, 0, none⟩ = false := by simp [World.frozen?, hk7])
          all_goals go_wp2_with fail
          all_goals
            go_roundg (CN - (j + 1))
            case measure => omega
            case rel =>
              refine ⟨j + 1, _, rfl, HI2.out, by omega, rfl, ?_⟩
              rw [take_get HX.out]
              exact ⟨_, HR7⟩
        · obtain rfl : j = CN := by omega
          obtain rfl : I = -1 := by omega
          have hfull : rows.reverse.take j = rows.reverse := List.take_of_length_le (by rw [List.length_reverse, HRN.out]; exact Nat.le_refl _)
          rw [hfull] at HST
          have hB4R := Lib.hid (below_next hB4.out HST.out.below)
          have hs9 := slC_own HST.out.own (fun x hx => (HREAD.out x (List.mem_reverse.1 hx)).keep hB4R.out)
          rw [List.map_reverse, HROWS.out] at hs9
          obtain ⟨po, co, rfl⟩ := hs9.form
          have hlr9 : cs.reverse.length = j := by rw [List.length_reverse, HCN.out]
          rw [hlr9] at hs9 q0
          have KQ := Lib.hid (check_any _ cs.reverse _ (HE.out.keep hB4R.out) hs9 HSMR.out HFITR.out)
          clear hs9 hfull HST hI
          go_wp2_with fail
          refine KQ.out.mono ?_
          rintro e w10 ⟨lv2, rfl, ho10, hb10⟩
          rw [hck.out] at ho10
          obtain ⟨pl2, cl2, rfl⟩ := own_form ho10
          have hB10 := Lib.hid (below_next hB4R.out hb10)
          clear ho10 hb10 q0
          go_wp2_with fail
          refine (KA.out _ hB10.out).mono ?_
          rintro e w9 ⟨rfl, hb9⟩
          go_wp2_with fail
          go_ret
          exact ⟨rfl, below_next hB10.out hb9⟩
end Go.Proofs.YtdafdbjdnebnfaaGreatDoor
