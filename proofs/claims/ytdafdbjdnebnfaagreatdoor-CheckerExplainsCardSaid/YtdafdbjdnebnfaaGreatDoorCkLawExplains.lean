/-
  CheckerExplains, walked.
-/
import Derived.Test.YtdafdbjdnebnfaaGreatDoorCkB
import Derived.Test.YtdafdbjdnebnfaaGreatDoorCkRefExplain
namespace Go.Proofs.YtdafdbjdnebnfaaGreatDoor
open Go.RowKit Go.Maps

theorem explain_len (cs : List Tr.C) : (explainL cs).length = (Ck.check cs).length := by
  cases hv : Tr.validP cs
  · unfold explainL Ck.check; rw [hv]; rfl
  · rw [explain_rows cs hv, check_rows cs hv, List.length_map, List.length_map]
theorem explain_sizes (cs : List Tr.C) (h : Ck.Small cs) : ∀ s ∈ explainL cs, s.size ≤ maxLen := by
  intro s hs
  cases hv : Tr.validP cs
  · unfold explainL at hs
    rw [hv] at hs
    obtain rfl := List.mem_singleton.1 hs
    decide
  · rw [explain_rows cs hv] at hs
    obtain ⟨x, hx, rfl⟩ := List.mem_map.1 hs
    have h1 := rows_names cs h x hx
    have h2 := textOf_len x.2
    unfold lineOf maxLen
    simp only [ByteArray.size_append]
    have e1 : (⟨#[58, 32]⟩ : ByteArray).size = 2 := rfl
    omega

set_option maxRecDepth 100000 in
set_option maxHeartbeats 8000000 in
theorem law_explains (v : Value) (cs : List Tr.C) (w : World) (hE : CkEnv w) (h : SlC w v cs) :
    Calls Tryz.prog 4 #[.agg #[v]] w fun e w' => e = .returned (.bool true) ∧ Below w.heap.size w w' := by
  have HE := Lib.hid hE
  have HS := Lib.hid h
  obtain ⟨pv, cpv, rfl⟩ := h.form
  obtain ⟨CN, hCN⟩ : ∃ q, cs.length = q := ⟨_, rfl⟩
  rw [hCN] at HS ⊢
  have hbx := below_box w (.cells #[.slice pv CN cpv] 24)
  have hbx2 := below_box (w.alloc (.cells #[.slice pv CN cpv] 24)) (.cells #[.slice pv CN cpv] 24)
  have hB2 := Lib.hid (below_next hbx hbx2)
  have hg := box_cell (w.alloc (.cells #[.slice pv CN cpv] 24)) #[.slice pv CN cpv] 24 0 _ rfl
  have c0 := cell_keep' hbx2 (box_cell w #[.slice pv CN cpv] 24 0 _ rfl)
  simp only [World.size_alloc] at hg
  have KF := Lib.hid (lawFew_any _ cs _ _ 1 hg (HS.out.keep hB2.out))
  have KA : Hid (∀ W, Below w.heap.size w W → Calls Tryz.prog 14 #[] W fun e w' => e = .returned (.bool true) ∧ Below W.heap.size W w') := fun W hb => awake40_any W (HE.out.keep hb)
  have C0 := Lib.hid c0
  clear hE h hCN hbx hbx2 hg c0
  cases hq : Tr.fewP cs 300
  · rw [hq] at KF
    clear hq
    go_enter Tryz.func4, Tryz.ntmps4
    go_wp2_with fail
    refine KF.out.mono ?_
    rintro e w2 ⟨rfl, hb2⟩
    have hB3 := Lib.hid (below_next hB2.out hb2)
    clear hb2
    go_wp2_with fail
    refine (KA.out _ hB3.out).mono ?_
    rintro e w3 ⟨rfl, hb3⟩
    go_wp2_with fail
    go_ret
    exact ⟨rfl, below_next hB3.out hb3⟩
  · have hsm := Ck.small_of hq (by decide)
    have hfit := Tr.fitP_of hq (by decide)
    rw [hq] at KF
    have KC : Hid (∀ W, Below w.heap.size w W → Calls Tryz.prog 12 #[.agg #[.slice pv CN cpv]] W (CheckPost cs W)) := fun W hb => check_any _ cs W (HE.out.keep hb) (HS.out.keep hb) hsm hfit
    have KX : Hid (∀ W, Below w.heap.size w W → Calls Tryz.prog 15 #[.agg #[.slice pv CN cpv]] W (ExplainPost cs W)) := fun W hb => explain_any _ cs W (HE.out.keep hb) (HS.out.keep hb) hsm hfit
    have KR : Hid (∀ W, Below w.heap.size w W → Calls Tryz.prog 17 #[.agg #[.slice pv CN cpv]] W (ExplainPost cs W)) := fun W hb => explainR_any _ cs W (HS.out.keep hb) hsm
    have KL : Hid (∀ W va vb, SlStr W va (explainL cs) → SlStr W vb (explainL cs) → Calls Tryz.prog 16 #[va, vb] W fun e w' => e = .returned (.bool true) ∧ Below W.heap.size W w') := fun W va vb h1 h2 => by have := sameLines_any va vb _ _ W h1 h2; rw [decide_eq_true rfl] at this; exact this
    have hsz := Lib.hid (explain_sizes cs hsm)
    obtain ⟨LN, hLN⟩ : ∃ q, (explainL cs).length = q := ⟨_, rfl⟩
    have hLC : (Ck.check cs).length = LN := by rw [← explain_len]; exact hLN
    have HLN := Lib.hid hLN
    have HLC := Lib.hid hLC
    have heq : ((LN : Int) == (LN : Int)) = true := beq_self_eq_true _
    clear hq hsm hfit hLN hLC
    go_enter Tryz.func4, Tryz.ntmps4
    go_wp2_with fail
    refine KF.out.mono ?_
    rintro e w2 ⟨rfl, hb2⟩
    have hB3 := Lib.hid (below_next hB2.out hb2)
    have C3 := Lib.hid (cell_keep' hb2 C0.out)
    have c3 := C3.out
    clear hb2
    go_wp2_with fail
    refine (KX.out _ hB3.out).mono ?_
    rintro e w3 ⟨lv, rfl, ho3, hb3⟩
    have hs3 := slStr_own ho3 hsz.out
    rw [HLN.out] at ho3
    obtain ⟨p3, k3, rfl⟩ := own_form ho3
    have hB4 := Lib.hid (below_next hB3.out hb3)
    have C4 := Lib.hid (cell_keep' hb3 C3.out)
    have c4 := C4.out
    have HS3 := Lib.hid hs3
    clear ho3 hb3 hs3 c3
    go_wp2_with fail
    refine (KR.out _ hB4.out).mono ?_
    rintro e w4 ⟨rv, rfl, ho4, hb4⟩
    have hs4 := slStr_own ho4 hsz.out
    have hB5 := Lib.hid (below_next hB4.out hb4)
    have C5 := Lib.hid (cell_keep' hb4 C4.out)
    have HS4 := Lib.hid hs4
    have HS3b := Lib.hid (HS3.out.keep hb4)
    clear ho4 hb4 hs4 c4
    go_wp2_with fail
    refine (KL.out _ _ _ HS3b.out HS4.out).mono ?_
    rintro e w5 ⟨rfl, hb5⟩
    have hB6 := Lib.hid (below_next hB5.out hb5)
    have C6 := Lib.hid (cell_keep' hb5 C5.out)
    have c6 := C6.out
    clear hb5
    go_wp2_with fail
    refine (KC.out _ hB6.out).mono ?_
    rintro e w6 ⟨cv, rfl, ho6, hb6⟩
    rw [HLC.out] at ho6
    obtain ⟨p6, k6, rfl⟩ := own_form ho6
    have hB7 := Lib.hid (below_next hB6.out hb6)
    clear ho6 hb6 c6
    go_wp2_with fail
    refine (KA.out _ hB7.out).mono ?_
    rintro e w7 ⟨rfl, hb7⟩
    go_wp2_with fail
    go_ret
    exact ⟨rfl, below_next hB7.out hb7⟩
end Go.Proofs.YtdafdbjdnebnfaaGreatDoor
