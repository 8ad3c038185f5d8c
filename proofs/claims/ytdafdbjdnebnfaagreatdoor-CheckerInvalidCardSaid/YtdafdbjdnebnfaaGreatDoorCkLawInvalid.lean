/-
  CheckerInvalid, walked.
-/
import Derived.Test.YtdafdbjdnebnfaaGreatDoorCkB
import Derived.Test.YtdafdbjdnebnfaaGreatDoorTrValR3
import Derived.Test.YtdafdbjdnebnfaaGreatDoorCkA
namespace Go.Proofs.YtdafdbjdnebnfaaGreatDoor
open Go.RowKit Go.Maps

theorem check_mem {cs : List Tr.C} (hv : Tr.validP cs = true) : ∀ n ∈ Ck.check cs, n ≠ 1 ∧ n ≠ 0 := by
  intro n hn
  rw [check_rows cs hv] at hn
  obtain ⟨x, _, rfl⟩ := List.mem_map.1 hn
  exact Ck.code_ne x.2

set_option maxRecDepth 100000 in
set_option maxHeartbeats 4000000 in
theorem law_invalid (v : Value) (cs : List Tr.C) (w : World) (hE : CkEnv w) (h : SlC w v cs) :
    Calls Tryz.prog 9 #[.agg #[v]] w fun e w' => e = .returned (.bool true) ∧ Below w.heap.size w w' := by
  have HE := Lib.hid hE
  have HS := Lib.hid h
  obtain ⟨pv, cpv, rfl⟩ := h.form
  obtain ⟨CN, hCN⟩ : ∃ q, cs.length = q := ⟨_, rfl⟩
  rw [hCN] at HS ⊢
  have hbx := below_box w (.cells #[.slice pv CN cpv] 24)
  have hbx2 := below_box (w.alloc (.cells #[.slice pv CN cpv] 24)) (.cells #[.slice pv CN cpv] 24)
  have hB2 := Lib.hid (below_next hbx hbx2)
  have hg := box_cell (w.alloc (.cells #[.slice pv CN cpv] 24)) #[.slice pv CN cpv] 24 0 _ rfl
  have c0 := cell_keep' hbx2 (box_cell w #[.slice pv CN cpv] 24 0 _ rfl)
  simp only [World.size_alloc] at hg
  have KF := Lib.hid (lawFew_any _ cs _ _ 1 hg (HS.out.keep hB2.out))
  have KA : Hid (∀ W, Below w.heap.size w W → Calls Tryz.prog 14 #[] W fun e w' => e = .returned (.bool true) ∧ Below W.heap.size W w') := fun W hb => awake40_any W (HE.out.keep hb)
  have KV : Hid (∀ W, Below w.heap.size w W → Calls Tryz.prog 23 #[.agg #[.slice pv CN cpv]] W fun r w' => r = .returned (.bool (Tr.validP cs)) ∧ Below W.heap.size W w') := fun W hb => validR_any _ cs W (HS.out.keep hb)
  have C0 := Lib.hid c0
  clear hE h hCN hbx hbx2 hg c0
  cases hq : Tr.fewP cs 300
  · rw [hq] at KF
    clear hq
    go_enter Tryz.func9, Tryz.ntmps9
    go_wp2_with fail
    refine KF.out.mono ?_
    rintro e w2 ⟨rfl, hb2⟩
    have hB3 := Lib.hid (below_next hB2.out hb2)
    clear hb2
    go_wp2_with fail
    refine (KA.out _ hB3.out).mono ?_
    rintro e w3 ⟨rfl, hb3⟩
    go_wp2_with fail
    go_ret
    exact ⟨rfl, below_next hB3.out hb3⟩
  · have hsm := Ck.small_of hq (by decide)
    have hfit := Tr.fitP_of hq (by decide)
    rw [hq] at KF
    have KC : Hid (∀ W, Below w.heap.size w W → Calls Tryz.prog 12 #[.agg #[.slice pv CN cpv]] W (CheckPost cs W)) := fun W hb => check_any _ cs W (HE.out.keep hb) (HS.out.keep hb) hsm hfit
    have KX : Hid (∀ W, Below w.heap.size w W → Calls Tryz.prog 15 #[.agg #[.slice pv CN cpv]] W (ExplainPost cs W)) := fun W hb => explain_any _ cs W (HE.out.keep hb) (HS.out.keep hb) hsm hfit
    clear hq hsm hfit
    cases hv : Tr.validP cs
    · rw [hv] at KV
      have hck : Hid (Ck.check cs = [1]) := by show _ = _; unfold Ck.check; rw [hv]; rfl
      have hel : Hid (explainL cs = [⟨#[105, 110, 118, 97, 108, 105, 100, 32, 112, 114, 111, 103, 114, 97, 109]⟩]) := by show _ = _; unfold explainL; rw [hv]; rfl
      clear hv
      go_enter Tryz.func9, Tryz.ntmps9
      go_wp2_with fail
      refine KF.out.mono ?_
      rintro e w2 ⟨rfl, hb2⟩
      have hB3 := Lib.hid (below_next hB2.out hb2)
      have c0 := cell_keep' hb2 C0.out
      clear hb2
      go_wp2_with fail
      refine (KC.out _ hB3.out).mono ?_
      rintro e w3 ⟨lv, rfl, ho3, hb3⟩
      rw [hck.out] at ho3
      have HO3 := Lib.hid ho3
      have hB4 := Lib.hid (below_next hB3.out hb3)
      have c1 := cell_keep' hb3 c0
      clear ho3 hb3 c0
      go_wp2_with fail
      refine (KV.out _ hB4.out).mono ?_
      rintro e w4 ⟨rfl, hb4⟩
      have hB5 := Lib.hid (below_next hB4.out hb4)
      have C5 := Lib.hid (cell_keep' hb4 c1)
      have hbx4 := below_box w4 (.cells #[.int .i64 1] 50)
      have hsame := sameErr_any _ _ [1] [1] _ (((rdI_own (l := [1]) HO3.out).keep hb4).keep hbx4) (rdI_new w4 [1] (by decide))
      rw [decide_eq_true rfl] at hsame
      have HSA := Lib.hid hsame
      have hB6 := Lib.hid (below_next hB5.out hbx4)
      have C6 := Lib.hid (cell_keep' hbx4 C5.out)
      clear hb4 hbx4 hsame c1
      go_wp2_with fail
      refine HSA.out.mono ?_
      rintro e w5 ⟨rfl, hb5⟩
      have hB7 := Lib.hid (below_next hB6.out hb5)
      have c0 := cell_keep' hb5 C6.out
      clear hb5
      go_wp2_with fail
      refine (KX.out _ hB7.out).mono ?_
      rintro e w6 ⟨xv, rfl, ho6, hb6⟩
      rw [hel.out] at ho6
      obtain ⟨px, cx, rfl⟩ := own_form ho6
      have hB8 := Lib.hid (below_next hB7.out hb6)
      clear ho6 hb6 c0
      go_wp2_with fail
      refine (KA.out _ hB8.out).mono ?_
      rintro e w7 ⟨rfl, hb7⟩
      go_wp2_with fail
      go_ret
      exact ⟨rfl, below_next hB8.out hb7⟩
    · rw [hv] at KV
      have hmem := Lib.hid (check_mem hv)
      clear hv
      go_enter Tryz.func9, Tryz.ntmps9
      go_wp2_with fail
      refine KF.out.mono ?_
      rintro e w2 ⟨rfl, hb2⟩
      have hB3 := Lib.hid (below_next hB2.out hb2)
      have c0 := cell_keep' hb2 C0.out
      clear hb2
      go_wp2_with fail
      refine (KC.out _ hB3.out).mono ?_
      rintro e w3 ⟨lv, rfl, ho3, hb3⟩
      have hrd := rdI_own ho3
      have hB4 := Lib.hid (below_next hB3.out hb3)
      have c1 := cell_keep' hb3 c0
      clear ho3 hb3 c0
      go_wp2_with fail
      refine (KV.out _ hB4.out).mono ?_
      rintro e w4 ⟨rfl, hb4⟩
      have hB5 := Lib.hid (below_next hB4.out hb4)
      have hrd4 := hrd.keep hb4
      clear hb4 c1 hrd
      obtain ⟨R, hR⟩ : ∃ q, Ck.check cs = q := ⟨_, rfl⟩
      rw [hR] at hrd4 hmem
      obtain ⟨pl, cl, rfl, hll, hln, hlx⟩ := hrd4
      unfold maxLen at hll
      obtain ⟨N, hN⟩ : ∃ q, R.length = q := ⟨_, rfl⟩
      rw [hN] at hll ⊢
      have HLX := Lib.hid hlx
      have HN := Lib.hid hN
      clear hlx hln hN hR
      go_wp2_with fail
      go_loopw [30] (fun s30 wr => ∃ k : Nat, s30 = .int .i64 k ∧ k ≤ N ∧ Hid (Below w4.heap.size w4 wr)) (fun s30 _ => N - (intOf s30).toNat)
      case atStart => exact ⟨0, rfl, Nat.zero_le _, Lib.hid (Below.refl _ _)⟩
      case round =>
        obtain ⟨k, rfl, hk, HBR⟩ := hrel
        by_cases hlt : k < N
        · obtain ⟨x, hx⟩ : ∃ x, R[k]? = some x := ⟨_, List.getElem?_eq_getElem (by rw [HN.out]; exact hlt)⟩
          obtain ⟨b, o, rfl, _, hc⟩ := HLX.out k x hx
          have hc2 := cell_keep' HBR.out hc
          obtain ⟨n1, n0⟩ := hmem.out x (List.mem_of_getElem? hx)
          have e1 : ((x : Int) == 1) = false := beq_eq_false_iff_ne.2 (by omega)
          have e0 : ((x : Int) == 0) = false := beq_eq_false_iff_ne.2 (by omega)
          clear hc n1 n0 hx
          go_wp2_with fail
          go_roundw
          case rel => exact ⟨k + 1, by go_num, by omega, HBR⟩
          case measure => simp [intOf]; omega
        · have hB9 := Lib.hid (below_next hB5.out HBR.out)
          go_wp2_with fail
          refine (KA.out _ hB9.out).mono ?_
          rintro e w7 ⟨rfl, hb7⟩
          go_wp2_with fail
          go_ret
          exact ⟨rfl, below_next hB9.out hb7⟩
end Go.Proofs.YtdafdbjdnebnfaaGreatDoor
