/-
  Trees of the language: the reference's block and Valid, walked.
-/
import Derived.Test.YtlgfickhkejdjaaGreatDoorMTrValR2
namespace Go.Proofs.YtlgfickhkejdjaaGreatDoor
open Go.RowKit

set_option maxRecDepth 100000 in
set_option maxHeartbeats 4000000 in
theorem blockR_any : ∀ (d : Nat) (l : List Tr.S), Tr.S.deep.deeps l ≤ d → BlockR l := by
  intro d
  induction d using Nat.strongRecOn with
  | ind d ih =>
    intro l hd v w hS
    obtain ⟨p, c, rfl, _⟩ := hS.form
    have hll := hS.len
    unfold maxLen at hll
    obtain ⟨N, hN⟩ : ∃ N, l.length = N := ⟨_, rfl⟩
    rw [hN] at hS hll ⊢
    have HS := Lib.hid hS
    have HN := Lib.hid hN
    have HD := Lib.hid hd
    have HIH := Lib.hid ih
    clear hS hN hd ih
    go_enter Tryz.func57, Tryz.ntmps57
    go_wp2
    go_loopw [3] (fun s3 wr => ∃ j : Nat, s3 = .int .i64 j ∧ j ≤ N ∧ (∀ t x, t < j → l[t]? = some x → Tr.validS x = true) ∧ Below w.heap.size w wr) (fun s3 _ => N - (intOf s3).toNat)
    case atStart => exact ⟨0, rfl, Nat.zero_le _, fun t x ht => by omega, Below.refl _ _⟩
    case round =>
      obtain ⟨j, rfl, hj, hall, hbr⟩ := hrel
      have HA := Lib.hid hall
      have HBR := Lib.hid hbr
      clear hall
      by_cases hlt : j < N
      · obtain ⟨x, hx⟩ : ∃ x, l[j]? = some x := ⟨_, List.getElem?_eq_getElem (by rw [HN.out]; exact hlt)⟩
        obtain ⟨b, oo, vx, vy, vz, rfl, hblt, hc, hbd, hsx, hsy, hsz⟩ := (HS.out.keep hbr).get hx
        obtain ⟨x0, x1, x2, x3, x4⟩ := hc
        have hdd := Tr.S.deep_in HD.out hx
        have hcall := validStmtR_of x vx vy vz wr hbd hsx hsy hsz (HIH.out (d - 1) (by omega) x.body hdd.2.1) (HIH.out (d - 1) (by omega) x.els hdd.2.2)
        unfold stmtV at hcall
        have HX := Lib.hid hx
        clear hx hbd hsx hsy hsz hbr hdd
        cases hv : Tr.validS x
        · rw [hv] at hcall
          have HCL := Lib.hid hcall
          have hf := Lib.hid (validSs_at HX.out hv)
          clear hcall hv
          go_wp2_with fail
          refine HCL.out.mono ?_
          rintro e w2 ⟨rfl, hb2⟩
          go_wp2_with fail
          go_ret
          exact ⟨by rw [hf.out]; rfl, below_next HBR.out hb2⟩
        · rw [hv] at hcall
          have HCL := Lib.hid hcall
          have HV := Lib.hid hv
          clear hcall hv
          go_wp2_with fail
          refine HCL.out.mono ?_
          rintro e w2 ⟨rfl, hb2⟩
          go_wp2_with fail
          go_roundw
          case rel =>
            refine ⟨j + 1, by go_num, by omega, fun t y ht hty => ?_, below_next HBR.out hb2⟩
            by_cases e : t = j
            · subst e; rw [HX.out] at hty; cases hty; exact HV.out
            · exact HA.out t y (by omega) hty
          case measure => simp [intOf]; omega
      · have hf := Lib.hid (validSs_yes HN.out (fun t x ht => HA.out t x (by omega)))
        clear hbr
        go_wp2
        go_ret
        exact ⟨by rw [hf.out]; rfl, HBR.out⟩
theorem blockR (l : List Tr.S) : BlockR l := blockR_any _ l (Nat.le_refl _)

set_option maxRecDepth 100000 in
set_option maxHeartbeats 8000000 in
theorem validR_any (v : Value) (cs : List Tr.C) (w : World) (h : SlC w v cs) :
    Calls Tryz.prog 21 #[.agg #[v]] w fun r w' => r = .returned (.bool (Tr.validP cs)) ∧ Below w.heap.size w w' := by
  obtain ⟨p, c, rfl⟩ := h.form
  have hll := h.len
  unfold maxLen at hll
  obtain ⟨N, hN⟩ : ∃ N, cs.length = N := ⟨_, rfl⟩
  rw [hN] at h hll ⊢
  have hbx := below_box w (.cells #[.slice p N c] 32)
  have HS := Lib.hid (h.keep hbx)
  have HN := Lib.hid hN
  have HB := Lib.hid hbx
  have b0 := box_cell w #[.slice p N c] 32 0 _ rfl
  obtain ⟨w1, hw1⟩ : ∃ w1, w1 = w.alloc (.cells #[.slice p N c] 32) := ⟨_, rfl⟩
  rw [← hw1] at HS HB b0
  clear h hN hbx
  go_enter Tryz.func21, Tryz.ntmps21
  go_wp2
  rw [← hw1]
  clear hw1
  go_loopw [3] (fun s3 wr => ∃ j : Nat, s3 = .int .i64 j ∧ j ≤ N ∧ (∀ t x, t < j → cs[t]? = some x → Tr.validC x = true) ∧ Below w1.heap.size w1 wr) (fun s3 _ => N - (intOf s3).toNat)
  case atStart => exact ⟨0, rfl, Nat.zero_le _, fun t x ht => by omega, Below.refl _ _⟩
  case round =>
    obtain ⟨j, rfl, hj, hall, hbr⟩ := hrel
    obtain ⟨wo, rfl⟩ : ∃ wo : World, wo = wr := ⟨_, rfl⟩
    have HA := Lib.hid hall
    have HBR := Lib.hid hbr
    have c0 := cell_keep' hbr b0
    clear hall
    by_cases hlt : j < N
    · obtain ⟨x, hx⟩ : ∃ x, cs[j]? = some x := ⟨_, List.getElem?_eq_getElem (by rw [HN.out]; exact hlt)⟩
      obtain ⟨b, oo, vf, vm, rfl, hblt, hc, hnm, hsf, hsm⟩ := (HS.out.keep hbr).get hx
      obtain ⟨x0, x1, x2, x3⟩ := hc
      have HX := Lib.hid hx
      obtain ⟨nm, act, fs, ms⟩ := x
      simp only [] at hnm hsf hsm x0 x1
      obtain ⟨pm, cm, rfl⟩ := hsm.form
      have hml := hsm.len
      unfold maxLen at hml
      obtain ⟨MN, hMN⟩ : ∃ N, ms.length = N := ⟨_, rfl⟩
      rw [hMN] at hsm hml x3
      obtain ⟨pf, cf, rfl⟩ := hsf.form
      obtain ⟨FN, hFN⟩ : ∃ N, fs.length = N := ⟨_, rfl⟩
      rw [hFN] at hsf x2
      have hbx := below_box wo (.cells #[.string nm, .bool act, .slice pf FN cf, .slice pm MN cm] 52)
      have HSF := Lib.hid (hsf.keep hbx)
      have HSM := Lib.hid (hsm.keep hbx)
      have HMN := Lib.hid hMN
      have HBX := Lib.hid hbx
      have e3 := box_cell wo #[.string nm, .bool act, .slice pf FN cf, .slice pm MN cm] 52 3 _ rfl
      have hd0 := cell_keep' hbx c0
      obtain ⟨W2, hW2⟩ : ∃ W2, W2 = wo.alloc (.cells #[.string nm, .bool act, .slice pf FN cf, .slice pm MN cm] 52) := ⟨_, rfl⟩
      rw [← hW2] at HSF HSM HBX e3 hd0
      clear hx hbr hsf hsm hMN hFN hbx
      have hno : Hid (Tr.validC ⟨nm, act, fs, ms⟩ = false → Tr.validP cs = false) := fun h => all_no HX.out h
      go_wp2_with fail
      rw [← hW2]
      have e1 : W2.cell? ⟨wo.heap.size, 1, none⟩ = some (.bool act) := by rw [hW2]; exact box_cell wo #[.string nm, .bool act, .slice pf FN cf, .slice pm MN cm] 52 1 _ rfl
      have e2 : W2.cell? ⟨wo.heap.size, 2, none⟩ = some (.slice pf FN cf) := by rw [hW2]; exact box_cell wo #[.string nm, .bool act, .slice pf FN cf, .slice pm MN cm] 52 2 _ rfl
      clear hW2
      have HBW := Lib.hid (below_next HBR.out HBX.out)
      cases hq1 : Tr.clsB nm
      · have hf := Lib.hid (hno.out (by show (_ && _ && _ && _) = false; rw [hq1]; rfl))
        have hcall := className_any nm W2 hnm
        rw [hq1] at hcall
        have HCL := Lib.hid hcall
        clear hq1 hcall
        refine HCL.out.mono ?_
        rintro e w3 ⟨rfl, hb3⟩
        go_wp2_with fail
        go_ret
        exact ⟨by rw [hf.out]; rfl, HB.out.trans ((below_next HBW.out hb3).mono HB.out.size)⟩
      · have hcall := className_any nm W2 hnm
        rw [hq1] at hcall
        have HCL := Lib.hid hcall
        have HQ1 := Lib.hid hq1
        clear hq1 hcall
        refine HCL.out.mono ?_
        rintro e w3 ⟨rfl, hb3⟩
        have f1 := cell_keep' hb3 e1
        have f2 := cell_keep' hb3 e2
        have f3 := cell_keep' hb3 e3
        have HSM3 := Lib.hid (HSM.out.keep hb3)
        have HBW3 := Lib.hid (below_next HBW.out hb3)
        have hcall := names_any _ fs w3 (HSF.out.keep hb3)
        clear hb3 HCL
        cases hq2 : fs.all Tr.varB
        · have hf := Lib.hid (hno.out (by show (_ && _ && _ && _) = false; rw [hq2, Bool.and_false]; rfl))
          rw [hq2] at hcall
          have HCL := Lib.hid hcall
          clear hq2 hcall
          go_wp2_with fail
          refine HCL.out.mono ?_
          rintro e w4 ⟨rfl, hb4⟩
          go_wp2_with fail
          go_ret
          exact ⟨by rw [hf.out]; rfl, HB.out.trans ((below_next HBW3.out hb4).mono HB.out.size)⟩
        · rw [hq2] at hcall
          have HCL := Lib.hid hcall
          have HQ2 := Lib.hid hq2
          clear hq2 hcall
          go_wp2_with fail
          refine HCL.out.mono ?_
          rintro e w4 ⟨rfl, hb4⟩
          have g1 := cell_keep' hb4 f1
          have g3 := cell_keep' hb4 f3
          have HSM4 := Lib.hid (HSM3.out.keep hb4)
          have HBW4 := Lib.hid (below_next HBW3.out hb4)
          clear hb4 HCL f1 f2 f3 e1 e2 e3
          by_cases hbad : act = false ∧ 0 < MN
          · obtain ⟨rfl, hM⟩ := hbad
            have hf := Lib.hid (hno.out (by show (_ && _ && _ && _) = false; rw [show (false || decide (ms.length = 0)) = false by rw [HMN.out]; simp; omega, Bool.and_false]; rfl))
            go_wp2_with fail
            go_ret
            exact ⟨by rw [hf.out]; rfl, HB.out.trans (HBW4.out.mono HB.out.size)⟩
          · have hgood : act = true ∨ (act = false ∧ MN ≤ 0) := by
              cases act
              · right; exact ⟨rfl, by have : ¬ 0 < MN := fun h => hbad ⟨rfl, h⟩; omega⟩
              · exact .inl rfl
            clear hbad
            rcases hgood with rfl | ⟨rfl, hM⟩
            · go_wp2_with fail
              go_loopw [5] (fun s5 wr => ∃ i : Nat, s5 = .int .i64 i ∧ i ≤ MN ∧ (∀ t m, t < i → ms[t]? = some m → Tr.validM m = true) ∧ Below w4.heap.size w4 wr) (fun s5 _ => MN - (intOf s5).toNat)
              case atStart => exact ⟨0, rfl, Nat.zero_le _, fun t x ht => by omega, Below.refl _ _⟩
              case round =>
                obtain ⟨i, rfl, hi, hall, hbr⟩ := hrel
                have HAM := Lib.hid hall
                have HBRM := Lib.hid hbr
                have k3 := cell_keep' hbr g3
                clear hall
                by_cases hlt2 : i < MN
                · obtain ⟨m, hm⟩ : ∃ m, ms[i]? = some m := ⟨_, List.getElem?_eq_getElem (by rw [HMN.out]; exact hlt2)⟩
                  obtain ⟨b2, o2, vp, vb, rfl, hblt2, hc2, hnm2, hsp, hsb⟩ := (HSM4.out.keep hbr).get hm
                  obtain ⟨y0, y1, y2⟩ := hc2
                  have HM := Lib.hid hm
                  obtain ⟨mn, ps, bd⟩ := m
                  simp only [] at hnm2 hsp hsb y0
                  obtain ⟨pp, cp, rfl⟩ := hsp.form
                  obtain ⟨pb, cb, rfl, _⟩ := hsb.form
                  obtain ⟨PN, hPN⟩ : ∃ N, ps.length = N := ⟨_, rfl⟩
                  obtain ⟨BN, hBN⟩ : ∃ N, bd.length = N := ⟨_, rfl⟩
                  rw [hPN] at hsp y1
                  rw [hBN] at hsb y2
                  have hbx := below_box wr (.cells #[.string mn, .slice pp PN cp, .slice pb BN cb] 49)
                  have HSP := Lib.hid (hsp.keep hbx)
                  have HSB := Lib.hid (hsb.keep hbx)
                  have HBXM := Lib.hid hbx
                  have z1 := box_cell wr #[.string mn, .slice pp PN cp, .slice pb BN cb] 49 1 _ rfl
                  have z2 := box_cell wr #[.string mn, .slice pp PN cp, .slice pb BN cb] 49 2 _ rfl
                  obtain ⟨W5, hW5⟩ : ∃ W5, W5 = wr.alloc (.cells #[.string mn, .slice pp PN cp, .slice pb BN cb] 49) := ⟨_, rfl⟩
                  rw [← hW5] at HSP HSB HBXM z1 z2
                  have hnoM : Hid (Tr.validM ⟨mn, ps, bd⟩ = false → Tr.validP cs = false) := fun h => hno.out (by show (_ && _ && _ && ms.all Tr.validM) = false; rw [all_no HM.out h, Bool.and_false])
                  clear hm hsp hsb hbr hbx hPN hBN
                  go_wp2_with fail
                  rw [← hW5]
                  clear hW5
                  have HBW5 := Lib.hid (below_next HBRM.out HBXM.out)
                  have hcall := variable_any mn W5 hnm2
                  cases hv1 : Tr.varB mn
                  · have hf := Lib.hid (hnoM.out (by show (_ && _ && _) = false; rw [hv1]; rfl))
                    rw [hv1] at hcall
                    have HCL := Lib.hid hcall
                    clear hv1 hcall
                    refine HCL.out.mono ?_
                    rintro e w6 ⟨rfl, hb6⟩
                    go_wp2_with fail
                    go_ret
                    exact ⟨by rw [hf.out]; rfl, HB.out.trans ((below_next HBW4.out (below_next HBW5.out hb6)).mono HB.out.size)⟩
                  · rw [hv1] at hcall
                    have HCL := Lib.hid hcall
                    have HV1 := Lib.hid hv1
                    clear hv1 hcall
                    refine HCL.out.mono ?_
                    rintro e w6 ⟨rfl, hb6⟩
                    have z1' := cell_keep' hb6 z1
                    have z2' := cell_keep' hb6 z2
                    have HSB6 := Lib.hid (HSB.out.keep hb6)
                    have HBW6 := Lib.hid (below_next HBW5.out hb6)
                    have hcall := names_any _ ps w6 (HSP.out.keep hb6)
                    clear hb6 HCL
                    cases hv2 : ps.all Tr.varB
                    · have hf := Lib.hid (hnoM.out (by show (_ && _ && _) = false; rw [hv2, Bool.and_false]; rfl))
                      rw [hv2] at hcall
                      have HCL := Lib.hid hcall
                      clear hv2 hcall
                      go_wp2_with fail
                      refine HCL.out.mono ?_
                      rintro e w7 ⟨rfl, hb7⟩
                      go_wp2_with fail
                      go_ret
                      exact ⟨by rw [hf.out]; rfl, HB.out.trans ((below_next HBW4.out (below_next HBW6.out hb7)).mono HB.out.size)⟩
                    · rw [hv2] at hcall
                      have HCL := Lib.hid hcall
                      have HV2 := Lib.hid hv2
                      clear hv2 hcall
                      go_wp2_with fail
                      refine HCL.out.mono ?_
                      rintro e w7 ⟨rfl, hb7⟩
                      have z2'' := cell_keep' hb7 z2'
                      have HBW7 := Lib.hid (below_next HBW6.out hb7)
                      have hcall := blockR bd _ w7 (HSB6.out.keep hb7)
                      clear hb7 HCL
                      cases hv3 : Tr.validSs bd
                      · have hf := Lib.hid (hnoM.out (by show (_ && _ && _) = false; rw [hv3, Bool.and_false]))
                        rw [hv3] at hcall
                        have HCL := Lib.hid hcall
                        clear hv3 hcall
                        go_wp2_with fail
                        refine HCL.out.mono ?_
                        rintro e w8 ⟨rfl, hb8⟩
                        go_wp2_with fail
                        go_ret
                        exact ⟨by rw [hf.out]; rfl, HB.out.trans ((below_next HBW4.out (below_next HBW7.out hb8)).mono HB.out.size)⟩
                      · rw [hv3] at hcall
                        have HCL := Lib.hid hcall
                        have HV3 := Lib.hid (show Tr.validM ⟨mn, ps, bd⟩ = true by show (_ && _ && _) = true; rw [HV1.out, HV2.out, hv3]; rfl)
                        clear hv3 hcall
                        go_wp2_with fail
                        refine HCL.out.mono ?_
                        rintro e w8 ⟨rfl, hb8⟩
                        go_wp2_with fail
                        go_roundw
                        case rel =>
                          refine ⟨i + 1, by go_num, by omega, fun t y ht hty => ?_, below_next HBW7.out hb8⟩
                          by_cases e : t = i
                          · subst e; rw [HM.out] at hty; cases hty; exact HV3.out
                          · exact HAM.out t y (by omega) hty
                        case measure => simp [intOf]; omega
                · have hms := Lib.hid (all_get HMN.out (p := Tr.validM) (fun t m ht => HAM.out t m (by omega)))
                  have hyes : Hid (Tr.validC ⟨nm, true, fs, ms⟩ = true) := show (Tr.clsB nm && fs.all Tr.varB && (true || decide (ms.length = 0)) && ms.all Tr.validM) = true by rw [HQ1.out, HQ2.out, hms.out]; rfl
                  clear hbr
                  go_wp2_with fail
                  go_roundw
                  case rel =>
                    refine ⟨j + 1, by go_num, by omega, fun t y ht hty => ?_, HBW4.out.trans (HBRM.out.mono HBW4.out.size)⟩
                    by_cases e : t = j
                    · subst e; rw [HX.out] at hty; cases hty; exact hyes.out
                    · exact HA.out t y (by omega) hty
                  case measure => simp [intOf]; omega
            · have hms := all_get HMN.out (p := Tr.validM) (fun t m ht _ => by omega)
              have hyes : Hid (Tr.validC ⟨nm, false, fs, ms⟩ = true) := show (Tr.clsB nm && fs.all Tr.varB && (false || decide (ms.length = 0)) && ms.all Tr.validM) = true by rw [HQ1.out, HQ2.out, hms, HMN.out, decide_eq_true (by omega)]; rfl
              clear hms
              go_wp2_with fail
              refine wp_loop_rounds 1 ?_
              rw [rounds_succ]
              go_wp2_with fail
              go_roundw
              case rel =>
                refine ⟨j + 1, by go_num, by omega, fun t y ht hty => ?_, HBW4.out⟩
                by_cases e : t = j
                · subst e; rw [HX.out] at hty; cases hty; exact hyes.out
                · exact HA.out t y (by omega) hty
              case measure => simp [intOf]; omega
    · have hf := Lib.hid (all_get HN.out (p := Tr.validC) (fun t x ht => HA.out t x (by omega)))
      clear hbr
      go_wp2
      go_ret
      exact ⟨by rw [Tr.validP, hf.out]; rfl, HB.out.trans (HBR.out.mono HB.out.size)⟩
end Go.Proofs.YtlgfickhkejdjaaGreatDoor
