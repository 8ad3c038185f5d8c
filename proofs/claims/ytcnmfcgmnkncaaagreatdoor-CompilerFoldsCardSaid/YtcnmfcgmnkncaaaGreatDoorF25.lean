/-
  Several texts in one: CoProg, CoCalcR.
-/
import Derived.Test.YtcnmfcgmnkncaaaGreatDoorF24
import Derived.Test.YtcnmfcgmnkncaaaGreatDoorF9
import Derived.Test.YtcnmfcgmnkncaaaGreatDoorF10
namespace Go.Proofs.YtcnmfcgmnkncaaaGreatDoor
namespace Cw
open Go.RowKit Go.Maps Pw
set_option maxRecDepth 100000 in
set_option maxHeartbeats 40000000 in
theorem program_any42 {cs : List Tr.C} {v : Value} {w : World} (hp : SlC w v cs) (hE : CoEnv w) (hsm : Ck.Small cs) (hfit : Tr.fitP cs) (hsz : cs.length ≤ 1000 ∧ ∀ c ∈ cs, Co.SmC 1000 c) :
 Calls Tryz.prog 12 #[.agg #[v]] w (PP cs w) := by
 have hp0 := hp
 obtain ⟨pp, cp, rfl, _⟩ := hp.form
 have hlc := hsz.1
 obtain ⟨CN, hCN⟩ : ∃ q, cs.length = q := ⟨_, rfl⟩
 rw [hCN] at hp0 hlc ⊢
 have HP := Lib.hid hp0
 have HN := Lib.hid hCN
 have HE := Lib.hid hE
 have HSM := Lib.hid hsm
 have HFIT := Lib.hid hfit
 have HSZ := Lib.hid hsz.2
 have C0 := Lib.hid (Mp.start w)
 clear hp hp0 hCN hE hsm hfit hsz
 obtain ⟨P, w1, HX1, HW1, hx1, C1⟩ := C0.out.boxE #[.slice pp CN cp] 24
 obtain ⟨R, w2, HX2, HW2, hx2, C2⟩ := C1.out.boxE #[.slice none 0 0] 29
 have HY2 : Hid (R = P + 1) := Lib.hid (by rw [HX2.out, HW1.out, HX1.out]; simp)
 go_enter Tryz.func12, Tryz.ntmps12
 go_upto_region 1 with fail
 rw [← HX1.out, ← HW1.out, ← HY2.out, ← HW2.out]
 clear HX1 HW1 C0 HY2 HX2 HW2 C1
 have HRL := Lib.hid (C2.out.lt 0 rfl).2
 obtain ⟨l1, c1_0, f1_0⟩ := cells1 (C2.out.b 1 rfl)
 go_wp2_with fail
 clear l1 c1_0 f1_0
 refine (check_any _ cs _ (HE.out.keep C2.out.gr.fresh) (HP.out.keep C2.out.gr.fresh) HSM.out HFIT.out).mono ?_
 rintro e w3 ⟨v9, rfl, hown, hb⟩
 have C4 := Lib.hid (C2.out.below hb)
 clear C2
 clear hb
 obtain ⟨pk, ck, hvk⟩ := own_form hown
 subst hvk
 cases hck : Ck.check cs with
 | nil =>
   have HCK := Lib.hid hck
   have HVP := Lib.hid (check_valid hck)
   clear hck hown
   rw [List.length_nil]
   obtain ⟨OUT, w5, HX, HW, hx5, C5⟩ := C4.out.boxE #[.slice none 0 0] 29
   go_upto_region 5 with fail
   rw [← HX.out, ← HW.out]
   clear HX HW C4
   obtain ⟨l2, c2_0, f2_0⟩ := cells1 (C5.out.b 2 rfl)
   go_wp2_with fail
   clear l2 c2_0 f2_0
   go_loopg [25] CN (fun gg s25 wr => ∃ (j : Nat) (dn : List CcT) (vo : Value), s25 = .int .i64 j ∧ j ≤ CN ∧ gg = CN - j ∧ Hid (Co.ccsOf cs (cs.take j) = some (dn.map Prod.fst)) ∧ Hid (Mp w dn [] vo (.slice none 0 0) [(OUT, #[vo], 29), (R, #[.slice none 0 0], 29), (P, #[.slice pp CN cp], 24)] [AC dn] wr))
   case atStart => exact ⟨0, [], .slice none 0 0, rfl, Nat.zero_le _, rfl, Lib.hid (by rw [List.take_zero]; rfl), C5⟩
   case round =>
    clear C5
    obtain ⟨j, dn, vo, rfl, hj, rfl, HDN, CR⟩ := hrel
    by_cases hlt : j < CN
    ·obtain ⟨c, hc⟩ : ∃ c, cs[j]? = some c := ⟨_, List.getElem?_eq_getElem (by rw [HN.out]; exact hlt)⟩
     have HC := Lib.hid hc
     have HSC := Lib.hid (HSZ.out c (List.mem_of_getElem? hc))
     have HVC : Hid (c.methods.all Tr.validM = true) := Lib.hid (by
      have h9 := HVP.out
      unfold Tr.validP at h9
      have h8 := List.all_eq_true.1 h9 c (List.mem_of_getElem? hc)
      unfold Tr.validC at h8
      simp only [Bool.and_eq_true] at h8
      exact h8.2)
     obtain ⟨b1, o1, vf, vm, hpe, hblt0, ⟨u0, u1, u2, u3⟩, hnm, hsf, hsm⟩ := HP.out.get hc
     have hfr := CR.out.gr.fresh
     have x0 := cell_keep' hfr u0
     have x1 := cell_keep' hfr u1
     have x2 := cell_keep' hfr u2
     have x3 := cell_keep' hfr u3
     have hblt := Nat.lt_of_lt_of_le hblt0 hfr.size
     clear u0 u1 u2 u3 hblt0 hfr
     subst hpe
     have HNMC := Lib.hid hnm
     have HSF := Lib.hid hsf
     have HSMM := Lib.hid hsm
     obtain ⟨pf, cf, hvf, _, _⟩ := hsf
     subst hvf
     obtain ⟨pm, cm, hvm, _, _⟩ := hsm
     subst hvm
     obtain ⟨FN, hFN⟩ : ∃ q, c.fields.length = q := ⟨_, rfl⟩
     obtain ⟨MN, hMN⟩ : ∃ q, c.methods.length = q := ⟨_, rfl⟩
     rw [hFN] at x2 HSF
     rw [hMN] at x3 HSMM
     have HMN := Lib.hid hMN
     have HFN := Lib.hid hFN
     have hmn : MN ≤ 1000 := by rw [← hMN]; exact HSC.out.ms
     clear hc hnm hFN hMN
     have b0j : (0 : Int) ≤ (j : Int) := by omega
     have b3j : (j : Int) < (CN : Int) := by omega
     obtain ⟨CB, w6, HX, HW, hx6, C6⟩ := CR.out.boxE #[.string c.name, .bool c.actor, .slice pf FN cf, .slice pm MN cm] 55
     go_upto_region 8 with fail
     rw [← HX.out, ← HW.out]
     clear HX HW CR
     clear x0 x1 x2 x3 hblt
     obtain ⟨we, HWE, CE⟩ := C6.out.drewE
     refine wp_region_held_drew (S := fun W => W.cell? ⟨CB, 0, none⟩ = some (.string c.name) ∧ W.cell? ⟨CB, 1, none⟩ = some (.bool c.actor) ∧ W.cell? ⟨CB, 2, none⟩ = some (.slice pf FN cf)) (by kernel_rfl) (by rw [← HWE.out]; exact ⟨cell_of_blkP (CE.out.b 0 rfl) (j := 0) rfl, cell_of_blkP (CE.out.b 0 rfl) (j := 1) rfl, cell_of_blkP (CE.out.b 0 rfl) (j := 2) rfl⟩) (fun hHeld => ?_)
     rw [← HWE.out] at hHeld ⊢
     have HWQ := HWE
     clear HWE C6
     refine rT 0 (some 29) ?_
     try simp only [Act.put, q0, q1, q2]
     refine rT 1 (some 30) ?_
     try simp only [Act.put, q0, q1, q2]
     refine rT 2 (some 31) ?_
     try simp only [Act.put, q0, q1, q2]
     refine rT 3 (some 32) ?_
     try simp only [Act.put, q0, q1, q2]
     refine rT 4 (some 33) ?_
     try simp only [Act.put, q0, q1, q2]
     refine rT 5 (some 34) ?_
     try simp only [Act.put, q0, q1, q2]
     clear hHeld
     refine rR2 6 (some 35) 8 (some 8) (fun K hK => ?_) (fun K hK => ?_)
     ·go_simp
      refine (clone_any (.slice pf FN cf) c.fields we (HSF.out.keep CE.out.gr.fresh) (by have := HSC.out.fs; omega)).mono ?_
      rintro e w7 ⟨v8, rfl, hb8, hs8⟩
      have hs7 := hs8
      obtain ⟨pg, cg, hvg, _, _⟩ := hs7
      rw [HFN.out] at hvg
      subst hvg
      have C7 := Lib.hid (Mz.add CE.out (r := RN (.slice pg FN cg) c.fields) hb8 rn_mn hs8)
      clear hb8 hs8 CE
      go_wp2_with fail
      refine hK.out _ _ ?_ (fun hHeld => ?_)
      ·exact ⟨cell_of_blkP (C7.out.b 0 rfl) (j := 0) rfl, cell_of_blkP (C7.out.b 0 rfl) (j := 1) rfl, cell_of_blkP (C7.out.b 0 rfl) (j := 2) rfl⟩
      clear hK K
      try simp only [Act.put, q0, q1, q2]
      refine rT 7 (some 36) ?_
      try simp only [Act.put, q0, q1, q2]
      clear hHeld
      refine rR1 8 (some 8) (fun K hK => ?_)
      obtain ⟨XB, w8, HX, HW, hx8, C8⟩ := C7.out.boxE #[.string ⟨#[]⟩, .bool false, .slice none 0 0, .slice none 0 0] 52
      go_simp
      rw [← HX.out, ← HW.out]
      clear HX HW C7
      refine hK.out _ _ ?_ (fun hHeld => ?_)
      ·exact ⟨cell_of_blkP (C8.out.b 1 rfl) (j := 0) rfl, cell_of_blkP (C8.out.b 1 rfl) (j := 1) rfl, cell_of_blkP (C8.out.b 1 rfl) (j := 2) rfl⟩
      clear hK K
      try simp only [Act.put, q0, q1, q2]
      clear hHeld
      refine rR1 9 none (fun K hK => ?_)
      obtain ⟨l0, c0_0, f0_0, c0_1, f0_1, c0_2, f0_2, c0_3, f0_3⟩ := cells4 (C8.out.b 0 rfl)
      obtain ⟨w9, HW⟩ : ∃ q, Hid (q = ((((w8.setCell ⟨XB, 0, none⟩ (.string c.name)).setCell ⟨XB, 1, none⟩ (.bool c.actor)).setCell ⟨XB, 2, none⟩ (.slice pg FN cg)).setCell ⟨XB, 3, none⟩ (.slice none 0 0))) := ⟨_, Lib.hid rfl⟩
      have C9 := Lib.hid ((C8.out.set (W' := w9) 0 rfl (by rw [HW.out]; exact gr_trans (gr_trans (gr_trans (gr_set w8 XB 0 (.string c.name)) (gr_set (w8.setCell ⟨XB, 0, none⟩ (.string c.name)) XB 1 (.bool c.actor))) (gr_set ((w8.setCell ⟨XB, 0, none⟩ (.string c.name)).setCell ⟨XB, 1, none⟩ (.bool c.actor)) XB 2 (.slice pg FN cg))) (gr_set (((w8.setCell ⟨XB, 0, none⟩ (.string c.name)).setCell ⟨XB, 1, none⟩ (.bool c.actor)).setCell ⟨XB, 2, none⟩ (.slice pg FN cg)) XB 3 (.slice none 0 0))) (by rw [HW.out]; exact (heap_set (j := 3) (.slice none 0 0) (heap_set (j := 2) (.slice pg FN cg) (heap_set (j := 1) (.bool c.actor) (heap_set (j := 0) (.string c.name) (C8.out.b 0 rfl))))))).nrm (bs' := [(XB, #[.string c.name, .bool c.actor, .slice pg FN cg, .slice none 0 0], 52), (CB, #[.string c.name, .bool c.actor, .slice pf FN cf, .slice pm MN cm], 55), (OUT, #[vo], 29), (R, #[.slice none 0 0], 29), (P, #[.slice (some ⟨b1, o1, none⟩) CN cp], 24)]) rfl)
      go_simp
      rw [← HW.out]
      clear HW C8 l0 c0_0 f0_0 c0_1 f0_1 c0_2 f0_2 c0_3 f0_3
      refine hK.out _ _ ?_ (fun hHeld => ?_)
      ·exact ⟨cell_of_blkP (C9.out.b 1 rfl) (j := 0) rfl, cell_of_blkP (C9.out.b 1 rfl) (j := 1) rfl, cell_of_blkP (C9.out.b 1 rfl) (j := 2) rfl⟩
      clear hK K
      try simp only [Act.put, q0, q1, q2]
      refine wpAnyH_done (by kernel_rfl) ?_ _
      clear hHeld
      have C10 : Hid (Mp w dn [] vo (.slice none 0 0) [(XB, #[.string c.name, .bool c.actor, .slice pg FN cg, .slice none 0 0], 52), (CB, #[.string c.name, .bool c.actor, .slice pf FN cf, .slice pm MN cm], 55), (OUT, #[vo], 29), (R, #[.slice none 0 0], 29), (P, #[.slice (some ⟨b1, o1, none⟩) CN cp], 24)] [AM [], RN (.slice pg FN cg) c.fields, AC dn] w9) := Lib.hid ((C9.out.get (r := AM []) am_mn (fun x hx => by cases hx)))
      clear C9
      obtain ⟨l1, c1_0, f1_0, c1_1, f1_1, c1_2, f1_2, c1_3, f1_3⟩ := cells4 (C10.out.b 1 rfl)
      go_wp2_with fail
      clear l1 c1_0 f1_0 c1_1 f1_1 c1_2 f1_2 c1_3 f1_3
      go_loopg [40] MN (fun gg s40 wr => ∃ (k : Nat) (ms : List MmT) (vm : Value), s40 = .int .i64 k ∧ k ≤ MN ∧ gg = MN - k ∧ Hid (Co.cmsOf cs c (c.methods.take k) = some (ms.map Prod.fst)) ∧ Hid (Mp w dn ms vo (vm) [(XB, #[.string c.name, .bool c.actor, .slice pg FN cg, vm], 52), (CB, #[.string c.name, .bool c.actor, .slice pf FN cf, .slice pm MN cm], 55), (OUT, #[vo], 29), (R, #[.slice none 0 0], 29), (P, #[.slice (some ⟨b1, o1, none⟩) CN cp], 24)] [AM ms, RN (.slice pg FN cg) c.fields, AC dn] wr))
      case atStart => exact ⟨0, [], .slice none 0 0, rfl, Nat.zero_le _, rfl, Lib.hid (by rw [List.take_zero]; rfl), C10⟩
      case round =>
       clear C10
       obtain ⟨k, ms, vm, rfl, hk, rfl, HMS, CI⟩ := hrel
       by_cases hlk : k < MN
       ·obtain ⟨m, hm⟩ : ∃ m, c.methods[k]? = some m := ⟨_, List.getElem?_eq_getElem (by rw [HMN.out]; exact hlk)⟩
        have HM := Lib.hid hm
        have HSD := Lib.hid (HSC.out.all m (List.mem_of_getElem? hm))
        have HVM : Hid (Tr.validSs m.body = true) := Lib.hid (by
         have h8 := List.all_eq_true.1 HVC.out m (List.mem_of_getElem? hm)
         unfold Tr.validM at h8
         simp only [Bool.and_eq_true] at h8
         exact h8.2)
        obtain ⟨b2, o2, vx, vy, hpe, hblt0, ⟨u0, u1, u2⟩, hnm, hsx, hsy⟩ := HSMM.out.get hm
        have hfr := CI.out.gr.fresh
        have x0 := cell_keep' hfr u0
        have x1 := cell_keep' hfr u1
        have x2 := cell_keep' hfr u2
        have hblt := Nat.lt_of_lt_of_le hblt0 hfr.size
        clear u0 u1 u2 hblt0 hfr
        subst hpe
        have HNMM := Lib.hid hnm
        have HSX := Lib.hid hsx
        have HSY := Lib.hid hsy
        obtain ⟨px, cx, hvx, _, _⟩ := hsx
        subst hvx
        obtain ⟨py, cy, hvy, _⟩ := hsy.form
        subst hvy
        obtain ⟨PN, hPN⟩ : ∃ q, m.params.length = q := ⟨_, rfl⟩
        obtain ⟨YN, hYN⟩ : ∃ q, m.body.length = q := ⟨_, rfl⟩
        rw [hPN] at x1 HSX
        rw [hYN] at x2 HSY
        have HPN := Lib.hid hPN
        have HMSL : Hid (ms.length ≤ 1000) := Lib.hid (by have h9 := (Co.cmsOf_get HMS.out).1; rw [List.length_map, List.length_take] at h9; omega)
        clear hm hnm hsy hPN hYN
        have b0k : (0 : Int) ≤ (k : Int) := by omega
        have b3k : (k : Int) < (MN : Int) := by omega
        skip
        obtain ⟨MB, w11, HX, HW, hx11, C11⟩ := CI.out.boxE #[.string m.name, .slice px PN cx, .slice py YN cy] 62
        go_upto_region 12 with fail
        rw [← HX.out, ← HW.out]
        clear HX HW CI
        clear x0 x1 x2 hblt
        obtain ⟨l5, c5_0, f5_0⟩ := cells1 (C11.out.b 5 rfl)
        obtain ⟨l2, c2_0, f2_0, c2_1, f2_1, c2_2, f2_2, c2_3, f2_3⟩ := cells4 (C11.out.b 2 rfl)
        obtain ⟨l0, c0_0, f0_0, c0_1, f0_1, c0_2, f0_2⟩ := cells3 (C11.out.b 0 rfl)
        go_wp2_with fail
        clear l5 c5_0 f5_0 l2 c2_0 f2_0 c2_1 f2_1 c2_2 f2_2 c2_3 f2_3 l0 c0_0 f0_0 c0_1 f0_1 c0_2 f0_2
        refine (method_any (HP.out.keep C11.out.gr.fresh) ((HSF.out.keep C11.out.gr.fresh)) ⟨_, _, _, rfl⟩ (HSX.out.keep C11.out.gr.fresh) (HSY.out.keep C11.out.gr.fresh) HVM.out HNMM.out (by have h9 := HSD.out.ps; have h8 := HSD.out.w; omega)).mono ?_
        rintro e w12 ⟨hb9, hmp⟩
        cases hg9 : Co.gM cs c m with
        | none =>
          rw [hg9] at hmp
          subst hmp
          have HLG : Hid (Co.ccsOf cs cs = none) := Lib.hid (Co.ccsOf_none (List.mem_of_getElem? HC.out) (Co.cmsOf_none (List.mem_of_getElem? HM.out) hg9))
          have C14 := Lib.hid (C11.out.below hb9)
          clear C11
          clear hb9 hg9
          obtain ⟨CM, w15, HX, HW, hx15, C15⟩ := C14.out.boxE #[.string ⟨#[]⟩, .int .i64 0, .int .i64 0, .slice none 0 0, .slice none 0 0] 59
          go_upto_region 13 with fail
          rw [← HX.out, ← HW.out]
          clear HX HW C14
          obtain ⟨l5, c5_0, f5_0⟩ := cells1 (C15.out.b 5 rfl)
          go_wp2_with fail
          refine Mz.retC C15.out 5 rfl Tryz.results12 rfl rfl rfl (fun W9 h9 => pp_large HCK.out HLG.out h9.gr.fresh)
        | some g =>
          rw [hg9] at hmp
          obtain ⟨cv9, nv9, he9, hc9, hn9⟩ := hmp
          subst he9
          have hc8 := hc9
          have hn8 := hn9
          obtain ⟨pI, cI, hI, _, _⟩ := hc8
          obtain ⟨pN, cN, hNN, _, _⟩ := hn8
          subst hI
          subst hNN
          obtain ⟨IN, hIN⟩ : ∃ q, g.code.length = q := ⟨_, rfl⟩
          obtain ⟨NN, hNN2⟩ : ∃ q, g.names.length = q := ⟨_, rfl⟩
          obtain ⟨LN, hLN⟩ : ∃ q, g.locals = q := ⟨_, rfl⟩
          rw [hIN] at hc9 ⊢
          rw [hNN2] at hn9 ⊢
          rw [hLN, HPN.out]
          have C13 := Lib.hid (Mz.add C11.out (r := R1 (Co.cmOf m g, Value.slice pI IN cI, Value.slice pN NN cN)) hb9 r1_mn ⟨HNMM.out, hc9, hn9⟩)
          have HMK : Hid (Co.cmsOf cs c (c.methods.take (k + 1)) = some ((ms ++ [(Co.cmOf m g, Value.slice pI IN cI, Value.slice pN NN cN)]).map Prod.fst)) := Lib.hid (by rw [take_next HM.out, List.map_append]; exact Co.cmsOf_app HMS.out hg9)
          have HLN := Lib.hid hLN
          clear C11 hb9 hg9 hc9 hn9 hIN hNN2 hLN
          obtain ⟨CM, w16, HX, HW, hx16, C16⟩ := C13.out.boxE #[.string m.name, .int .i64 PN, .int .i64 LN, .slice pI IN cI, .slice pN NN cN] 59
          go_upto_region 13 with fail
          rw [← HX.out, ← HW.out]
          clear HX HW C13
          go_upto_region 15 with fail
          obtain ⟨i0, hi0, hz0, hz1, hz2⟩ := info_parts cmInfo
          obtain ⟨G, wg, HG, HWG, hxg, CG⟩ := C16.out.boxE #[.string m.name, .int .i64 PN, .int .i64 LN, .slice pI IN cI, .slice pN NN cN] 59
          obtain ⟨l2, c2_0, f2_0, c2_1, f2_1, c2_2, f2_2, c2_3, f2_3⟩ := cells4 (C16.out.b 2 rfl)
          obtain ⟨l0, c0_0, f0_0, c0_1, f0_1, c0_2, f0_2, c0_3, f0_3, c0_4, f0_4⟩ := cells5 (C16.out.b 0 rfl)
          go_wp2_with (at_builtin; rw [← HG.out, ← HWG.out]; refine wpList_app1 mmCells_len rfl _ _ 50 rfl i0 (.agg #[.string ⟨#[]⟩, .int .i64 0, .int .i64 0, .slice none 0 0, .slice none 0 0]) 80 Tryz.underlying50 hi0 hz0 hz1 hz2 rfl (by decide) rfl CG.out.q.mts G #[.string m.name, .int .i64 PN, .int .i64 LN, .slice pI IN cI, .slice pN NN cN] (Co.cmOf m g, Value.slice pI IN cI, Value.slice pN NN cN) rfl (CG.out.b 0 rfl) (by rw [← HPN.out, ← HLN.out]; rfl) (mmCells_one (CG.out.o 0 rfl)) (by have h9 := HMSL.out; unfold maxLen; omega) (by have h9 := HMSL.out; omega) (Nat.le_trans CG.out.hB CG.out.le) ?_; intro v9 wa hr9 hg9 hf9; have CA := Lib.hid (Mp.pushM CG.out hr9 hg9 hf9).tl; obtain ⟨pc, cc, hv9⟩ := own_form hr9; subst hv9; have hxb := CA.out.b 2 (X := XB) rfl; have gla := lt_of_block hxb; have ga3 := cell_of_blkP hxb (j := 3) (u := vm) rfl; have gaf3 := blk_free hxb 3; clear hr9 hg9 hf9 hxb CG l2 c2_0 f2_0 c2_1 f2_1 c2_2 f2_2 c2_3 f2_3 l0 c0_0 f0_0 c0_1 f0_1 c0_2 f0_2 c0_3 f0_3 c0_4 f0_4)
          have hl9 : (ms ++ [(Co.cmOf m g, Value.slice pI IN cI, Value.slice pN NN cN)]).length = ms.length + 1 := by simp
          rw [hl9] at CA
          have CT := Lib.hid CA.out.tl.tl
          obtain ⟨wz, HWZ⟩ : ∃ q, Hid (q = wa.setCell ⟨XB, 3, none⟩ (.slice pc (ms.length + 1) cc)) := ⟨_, Lib.hid rfl⟩
          have CZ : Hid (Mp w dn (ms ++ [(Co.cmOf m g, Value.slice pI IN cI, Value.slice pN NN cN)]) vo (.slice pc (ms.length + 1) cc) [(XB, #[.string c.name, .bool c.actor, .slice pg FN cg, .slice pc (ms.length + 1) cc], 52), (CB, #[.string c.name, .bool c.actor, .slice pf FN cf, .slice (some ⟨b2, o2, none⟩) MN cm], 55), (OUT, #[vo], 29), (R, #[.slice none 0 0], 29), (P, #[.slice (some ⟨b1, o1, none⟩) CN cp], 24)] [AM (ms ++ [(Co.cmOf m g, Value.slice pI IN cI, Value.slice pN NN cN)]), RN (.slice pg FN cg) c.fields, AC dn] wz) := Lib.hid ((CT.out.set 0 rfl (by rw [HWZ.out]; exact gr_set wa XB 3 _) (by rw [HWZ.out]; exact heap_set (j := 3) _ (CT.out.b 0 rfl))).nrm rfl)
          rw [← HWZ.out]
          clear HWZ CT CA gla ga3 gaf3
          go_roundg (MN - (k + 1))
          case measure => omega
          case rel => exact ⟨k + 1, _, _, by go_num, by omega, rfl, HMK, CZ⟩
       ·obtain rfl : MN = k := by omega
        have HMS2 : Hid (Co.cmsOf cs c c.methods = some (ms.map Prod.fst)) := Lib.hid (by have h9 := HMS.out; rw [List.take_of_length_le (by rw [HMN.out]; exact Nat.le_refl _)] at h9; exact h9)
        obtain ⟨pv9, cv9, hv9⟩ := own_form CI.out.q.mts
        obtain ⟨ML, hML⟩ : ∃ q, ms.length = q := ⟨_, rfl⟩
        rw [hML] at hv9
        subst hv9
        have CS := Lib.hid (Mp.seal CI.out)
        have HDL : Hid (dn.length ≤ 1000) := Lib.hid (by have h9 := (Co.ccsOf_get HDN.out).1; rw [List.length_map, List.length_take] at h9; omega)
        have HDK : Hid (Co.ccsOf cs (cs.take (j + 1)) = some ((dn ++ [(Co.ccOf c (ms.map Prod.fst), Value.slice pg FN cg, Value.slice pv9 ML cv9)]).map Prod.fst)) := Lib.hid (by rw [take_next HC.out, List.map_append]; exact Co.ccsOf_app HDN.out HMS2.out)
        clear CI HMS hML hk hlk
        obtain ⟨i0, hi0, hz0, hz1, hz2⟩ := info_parts ccInfo
        obtain ⟨G, wg, HG, HWG, hxg, CG⟩ := CS.out.boxE #[.string c.name, .bool c.actor, .slice pg FN cg, .slice pv9 ML cv9] 52
        obtain ⟨l0, c0_0, f0_0, c0_1, f0_1, c0_2, f0_2, c0_3, f0_3⟩ := cells4 (CS.out.b 0 rfl)
        obtain ⟨l2, c2_0, f2_0⟩ := cells1 (CS.out.b 2 rfl)
        go_wp2_with (at_builtin; rw [← HG.out, ← HWG.out]; refine wpList_app1 ccCells_len rfl _ _ 27 rfl i0 (.agg #[.string ⟨#[]⟩, .bool false, .slice none 0 0, .slice none 0 0]) 72 Tryz.underlying27 hi0 hz0 hz1 hz2 rfl (by decide) rfl CG.out.q.out G #[.string c.name, .bool c.actor, .slice pg FN cg, .slice pv9 ML cv9] (Co.ccOf c (ms.map Prod.fst), Value.slice pg FN cg, Value.slice pv9 ML cv9) rfl (CG.out.b 0 rfl) rfl (ccCells_one ⟨HNMC.out, CG.out.o 1 rfl, CG.out.o 0 rfl⟩) (by have h9 := HDL.out; unfold maxLen; omega) (by have h9 := HDL.out; omega) (Nat.le_trans CG.out.hB CG.out.le) ?_; intro v9 wa hr9 hg9 hf9; have CA := Lib.hid (Mp.pushC CG.out HNMC.out hr9 hg9 hf9).tl; obtain ⟨pc, cc, hv9⟩ := own_form hr9; subst hv9; have hxb := CA.out.b 2 (X := OUT) rfl; have gla := lt_of_block hxb; have ga0 := cell_of_blkP hxb (j := 0) (u := vo) rfl; have gaf0 := blk_free hxb 0; clear hr9 hg9 hf9 hxb CG l0 c0_0 f0_0 c0_1 f0_1 c0_2 f0_2 c0_3 f0_3 l2 c2_0 f2_0)
        have hl9 : (dn ++ [(Co.ccOf c (ms.map Prod.fst), Value.slice pg FN cg, Value.slice pv9 ML cv9)]).length = dn.length + 1 := by simp
        rw [hl9] at CA
        have CT := Lib.hid CA.out.tl.tl
        obtain ⟨wz, HWZ⟩ : ∃ q, Hid (q = wa.setCell ⟨OUT, 0, none⟩ (.slice pc (dn.length + 1) cc)) := ⟨_, Lib.hid rfl⟩
        have CZ : Hid (Mp w (dn ++ [(Co.ccOf c (ms.map Prod.fst), Value.slice pg FN cg, Value.slice pv9 ML cv9)]) [] (.slice pc (dn.length + 1) cc) (.slice none 0 0) [(OUT, #[(.slice pc (dn.length + 1) cc)], 29), (R, #[.slice none 0 0], 29), (P, #[.slice (some ⟨b1, o1, none⟩) CN cp], 24)] [AC (dn ++ [(Co.ccOf c (ms.map Prod.fst), Value.slice pg FN cg, Value.slice pv9 ML cv9)])] wz) := Lib.hid ((CT.out.set 0 rfl (by rw [HWZ.out]; exact gr_set wa OUT 0 _) (by rw [HWZ.out]; exact heap_set (j := 0) _ (CT.out.b 0 rfl))).nrm rfl)
        rw [← HWZ.out]
        clear HWZ CT CA gla ga0 gaf0
        go_roundg (CN - (j + 1))
        case measure => omega
        case rel => exact ⟨j + 1, _, _, by go_num, by omega, rfl, HDK, CZ⟩
     ·obtain ⟨XB, w17, HX, HW, hx17, C17⟩ := CE.out.boxE #[.string ⟨#[]⟩, .bool false, .slice none 0 0, .slice none 0 0] 52
      go_simp
      rw [← HX.out, ← HW.out]
      clear HX HW CE
      refine hK.out _ _ ?_ (fun hHeld => ?_)
      ·exact ⟨cell_of_blkP (C17.out.b 1 rfl) (j := 0) rfl, cell_of_blkP (C17.out.b 1 rfl) (j := 1) rfl, cell_of_blkP (C17.out.b 1 rfl) (j := 2) rfl⟩
      clear hK K
      try simp only [Act.put, q0, q1, q2]
      clear hHeld
      refine rR1 6 (some 35) (fun K hK => ?_)
      go_simp
      refine (clone_any (.slice pf FN cf) c.fields w17 (HSF.out.keep C17.out.gr.fresh) (by have := HSC.out.fs; omega)).mono ?_
      rintro e w18 ⟨v8, rfl, hb8, hs8⟩
      have hs7 := hs8
      obtain ⟨pg, cg, hvg, _, _⟩ := hs7
      rw [HFN.out] at hvg
      subst hvg
      have C18 := Lib.hid (Mz.add C17.out (r := RN (.slice pg FN cg) c.fields) hb8 rn_mn hs8)
      clear hb8 hs8 C17
      go_wp2_with fail
      refine hK.out _ _ ?_ (fun hHeld => ?_)
      ·exact ⟨cell_of_blkP (C18.out.b 1 rfl) (j := 0) rfl, cell_of_blkP (C18.out.b 1 rfl) (j := 1) rfl, cell_of_blkP (C18.out.b 1 rfl) (j := 2) rfl⟩
      clear hK K
      try simp only [Act.put, q0, q1, q2]
      refine rT 7 (some 36) ?_
      try simp only [Act.put, q0, q1, q2]
      clear hHeld
      refine rR1 9 none (fun K hK => ?_)
      obtain ⟨l0, c0_0, f0_0, c0_1, f0_1, c0_2, f0_2, c0_3, f0_3⟩ := cells4 (C18.out.b 0 rfl)
      obtain ⟨w19, HW⟩ : ∃ q, Hid (q = ((((w18.setCell ⟨XB, 0, none⟩ (.string c.name)).setCell ⟨XB, 1, none⟩ (.bool c.actor)).setCell ⟨XB, 2, none⟩ (.slice pg FN cg)).setCell ⟨XB, 3, none⟩ (.slice none 0 0))) := ⟨_, Lib.hid rfl⟩
      have C19 := Lib.hid ((C18.out.set (W' := w19) 0 rfl (by rw [HW.out]; exact gr_trans (gr_trans (gr_trans (gr_set w18 XB 0 (.string c.name)) (gr_set (w18.setCell ⟨XB, 0, none⟩ (.string c.name)) XB 1 (.bool c.actor))) (gr_set ((w18.setCell ⟨XB, 0, none⟩ (.string c.name)).setCell ⟨XB, 1, none⟩ (.bool c.actor)) XB 2 (.slice pg FN cg))) (gr_set (((w18.setCell ⟨XB, 0, none⟩ (.string c.name)).setCell ⟨XB, 1, none⟩ (.bool c.actor)).setCell ⟨XB, 2, none⟩ (.slice pg FN cg)) XB 3 (.slice none 0 0))) (by rw [HW.out]; exact (heap_set (j := 3) (.slice none 0 0) (heap_set (j := 2) (.slice pg FN cg) (heap_set (j := 1) (.bool c.actor) (heap_set (j := 0) (.string c.name) (C18.out.b 0 rfl))))))).nrm (bs' := [(XB, #[.string c.name, .bool c.actor, .slice pg FN cg, .slice none 0 0], 52), (CB, #[.string c.name, .bool c.actor, .slice pf FN cf, .slice pm MN cm], 55), (OUT, #[vo], 29), (R, #[.slice none 0 0], 29), (P, #[.slice (some ⟨b1, o1, none⟩) CN cp], 24)]) rfl)
      go_simp
      rw [← HW.out]
      clear HW C18 l0 c0_0 f0_0 c0_1 f0_1 c0_2 f0_2 c0_3 f0_3
      refine hK.out _ _ ?_ (fun hHeld => ?_)
      ·exact ⟨cell_of_blkP (C19.out.b 1 rfl) (j := 0) rfl, cell_of_blkP (C19.out.b 1 rfl) (j := 1) rfl, cell_of_blkP (C19.out.b 1 rfl) (j := 2) rfl⟩
      clear hK K
      try simp only [Act.put, q0, q1, q2]
      refine wpAnyH_done (by kernel_rfl) ?_ _
      clear hHeld
      have C20 : Hid (Mp w dn [] vo (.slice none 0 0) [(XB, #[.string c.name, .bool c.actor, .slice pg FN cg, .slice none 0 0], 52), (CB, #[.string c.name, .bool c.actor, .slice pf FN cf, .slice pm MN cm], 55), (OUT, #[vo], 29), (R, #[.slice none 0 0], 29), (P, #[.slice (some ⟨b1, o1, none⟩) CN cp], 24)] [AM [], RN (.slice pg FN cg) c.fields, AC dn] w19) := Lib.hid ((C19.out.get (r := AM []) am_mn (fun x hx => by cases hx)))
      clear C19
      obtain ⟨l1, c1_0, f1_0, c1_1, f1_1, c1_2, f1_2, c1_3, f1_3⟩ := cells4 (C20.out.b 1 rfl)
      go_wp2_with fail
      clear l1 c1_0 f1_0 c1_1 f1_1 c1_2 f1_2 c1_3 f1_3
      go_loopg [40] MN (fun gg s40 wr => ∃ (k : Nat) (ms : List MmT) (vm : Value), s40 = .int .i64 k ∧ k ≤ MN ∧ gg = MN - k ∧ Hid (Co.cmsOf cs c (c.methods.take k) = some (ms.map Prod.fst)) ∧ Hid (Mp w dn ms vo (vm) [(XB, #[.string c.name, .bool c.actor, .slice pg FN cg, vm], 52), (CB, #[.string c.name, .bool c.actor, .slice pf FN cf, .slice pm MN cm], 55), (OUT, #[vo], 29), (R, #[.slice none 0 0], 29), (P, #[.slice (some ⟨b1, o1, none⟩) CN cp], 24)] [AM ms, RN (.slice pg FN cg) c.fields, AC dn] wr))
      case atStart => exact ⟨0, [], .slice none 0 0, rfl, Nat.zero_le _, rfl, Lib.hid (by rw [List.take_zero]; rfl), C20⟩
      case round =>
       clear C20
       obtain ⟨k, ms, vm, rfl, hk, rfl, HMS, CI⟩ := hrel
       by_cases hlk : k < MN
       ·obtain ⟨m, hm⟩ : ∃ m, c.methods[k]? = some m := ⟨_, List.getElem?_eq_getElem (by rw [HMN.out]; exact hlk)⟩
        have HM := Lib.hid hm
        have HSD := Lib.hid (HSC.out.all m (List.mem_of_getElem? hm))
        have HVM : Hid (Tr.validSs m.body = true) := Lib.hid (by
         have h8 := List.all_eq_true.1 HVC.out m (List.mem_of_getElem? hm)
         unfold Tr.validM at h8
         simp only [Bool.and_eq_true] at h8
         exact h8.2)
        obtain ⟨b2, o2, vx, vy, hpe, hblt0, ⟨u0, u1, u2⟩, hnm, hsx, hsy⟩ := HSMM.out.get hm
        have hfr := CI.out.gr.fresh
        have x0 := cell_keep' hfr u0
        have x1 := cell_keep' hfr u1
        have x2 := cell_keep' hfr u2
        have hblt := Nat.lt_of_lt_of_le hblt0 hfr.size
        clear u0 u1 u2 hblt0 hfr
        subst hpe
        have HNMM := Lib.hid hnm
        have HSX := Lib.hid hsx
        have HSY := Lib.hid hsy
        obtain ⟨px, cx, hvx, _, _⟩ := hsx
        subst hvx
        obtain ⟨py, cy, hvy, _⟩ := hsy.form
        subst hvy
        obtain ⟨PN, hPN⟩ : ∃ q, m.params.length = q := ⟨_, rfl⟩
        obtain ⟨YN, hYN⟩ : ∃ q, m.body.length = q := ⟨_, rfl⟩
        rw [hPN] at x1 HSX
        rw [hYN] at x2 HSY
        have HPN := Lib.hid hPN
        have HMSL : Hid (ms.length ≤ 1000) := Lib.hid (by have h9 := (Co.cmsOf_get HMS.out).1; rw [List.length_map, List.length_take] at h9; omega)
        clear hm hnm hsy hPN hYN
        have b0k : (0 : Int) ≤ (k : Int) := by omega
        have b3k : (k : Int) < (MN : Int) := by omega
        skip
        obtain ⟨MB, w21, HX, HW, hx21, C21⟩ := CI.out.boxE #[.string m.name, .slice px PN cx, .slice py YN cy] 62
        go_upto_region 12 with fail
        rw [← HX.out, ← HW.out]
        clear HX HW CI
        clear x0 x1 x2 hblt
        obtain ⟨l5, c5_0, f5_0⟩ := cells1 (C21.out.b 5 rfl)
        obtain ⟨l2, c2_0, f2_0, c2_1, f2_1, c2_2, f2_2, c2_3, f2_3⟩ := cells4 (C21.out.b 2 rfl)
        obtain ⟨l0, c0_0, f0_0, c0_1, f0_1, c0_2, f0_2⟩ := cells3 (C21.out.b 0 rfl)
        go_wp2_with fail
        clear l5 c5_0 f5_0 l2 c2_0 f2_0 c2_1 f2_1 c2_2 f2_2 c2_3 f2_3 l0 c0_0 f0_0 c0_1 f0_1 c0_2 f0_2
        refine (method_any (HP.out.keep C21.out.gr.fresh) ((HSF.out.keep C21.out.gr.fresh)) ⟨_, _, _, rfl⟩ (HSX.out.keep C21.out.gr.fresh) (HSY.out.keep C21.out.gr.fresh) HVM.out HNMM.out (by have h9 := HSD.out.ps; have h8 := HSD.out.w; omega)).mono ?_
        rintro e w22 ⟨hb9, hmp⟩
        cases hg9 : Co.gM cs c m with
        | none =>
          rw [hg9] at hmp
          subst hmp
          have HLG : Hid (Co.ccsOf cs cs = none) := Lib.hid (Co.ccsOf_none (List.mem_of_getElem? HC.out) (Co.cmsOf_none (List.mem_of_getElem? HM.out) hg9))
          have C24 := Lib.hid (C21.out.below hb9)
          clear C21
          clear hb9 hg9
          obtain ⟨CM, w25, HX, HW, hx25, C25⟩ := C24.out.boxE #[.string ⟨#[]⟩, .int .i64 0, .int .i64 0, .slice none 0 0, .slice none 0 0] 59
          go_upto_region 13 with fail
          rw [← HX.out, ← HW.out]
          clear HX HW C24
          obtain ⟨l5, c5_0, f5_0⟩ := cells1 (C25.out.b 5 rfl)
          go_wp2_with fail
          refine Mz.retC C25.out 5 rfl Tryz.results12 rfl rfl rfl (fun W9 h9 => pp_large HCK.out HLG.out h9.gr.fresh)
        | some g =>
          rw [hg9] at hmp
          obtain ⟨cv9, nv9, he9, hc9, hn9⟩ := hmp
          subst he9
          have hc8 := hc9
          have hn8 := hn9
          obtain ⟨pI, cI, hI, _, _⟩ := hc8
          obtain ⟨pN, cN, hNN, _, _⟩ := hn8
          subst hI
          subst hNN
          obtain ⟨IN, hIN⟩ : ∃ q, g.code.length = q := ⟨_, rfl⟩
          obtain ⟨NN, hNN2⟩ : ∃ q, g.names.length = q := ⟨_, rfl⟩
          obtain ⟨LN, hLN⟩ : ∃ q, g.locals = q := ⟨_, rfl⟩
          rw [hIN] at hc9 ⊢
          rw [hNN2] at hn9 ⊢
          rw [hLN, HPN.out]
          have C23 := Lib.hid (Mz.add C21.out (r := R1 (Co.cmOf m g, Value.slice pI IN cI, Value.slice pN NN cN)) hb9 r1_mn ⟨HNMM.out, hc9, hn9⟩)
          have HMK : Hid (Co.cmsOf cs c (c.methods.take (k + 1)) = some ((ms ++ [(Co.cmOf m g, Value.slice pI IN cI, Value.slice pN NN cN)]).map Prod.fst)) := Lib.hid (by rw [take_next HM.out, List.map_append]; exact Co.cmsOf_app HMS.out hg9)
          have HLN := Lib.hid hLN
          clear C21 hb9 hg9 hc9 hn9 hIN hNN2 hLN
          obtain ⟨CM, w26, HX, HW, hx26, C26⟩ := C23.out.boxE #[.string m.name, .int .i64 PN, .int .i64 LN, .slice pI IN cI, .slice pN NN cN] 59
          go_upto_region 13 with fail
          rw [← HX.out, ← HW.out]
          clear HX HW C23
          go_upto_region 15 with fail
          obtain ⟨i0, hi0, hz0, hz1, hz2⟩ := info_parts cmInfo
          obtain ⟨G, wg, HG, HWG, hxg, CG⟩ := C26.out.boxE #[.string m.name, .int .i64 PN, .int .i64 LN, .slice pI IN cI, .slice pN NN cN] 59
          obtain ⟨l2, c2_0, f2_0, c2_1, f2_1, c2_2, f2_2, c2_3, f2_3⟩ := cells4 (C26.out.b 2 rfl)
          obtain ⟨l0, c0_0, f0_0, c0_1, f0_1, c0_2, f0_2, c0_3, f0_3, c0_4, f0_4⟩ := cells5 (C26.out.b 0 rfl)
          go_wp2_with (at_builtin; rw [← HG.out, ← HWG.out]; refine wpList_app1 mmCells_len rfl _ _ 50 rfl i0 (.agg #[.string ⟨#[]⟩, .int .i64 0, .int .i64 0, .slice none 0 0, .slice none 0 0]) 80 Tryz.underlying50 hi0 hz0 hz1 hz2 rfl (by decide) rfl CG.out.q.mts G #[.string m.name, .int .i64 PN, .int .i64 LN, .slice pI IN cI, .slice pN NN cN] (Co.cmOf m g, Value.slice pI IN cI, Value.slice pN NN cN) rfl (CG.out.b 0 rfl) (by rw [← HPN.out, ← HLN.out]; rfl) (mmCells_one (CG.out.o 0 rfl)) (by have h9 := HMSL.out; unfold maxLen; omega) (by have h9 := HMSL.out; omega) (Nat.le_trans CG.out.hB CG.out.le) ?_; intro v9 wa hr9 hg9 hf9; have CA := Lib.hid (Mp.pushM CG.out hr9 hg9 hf9).tl; obtain ⟨pc, cc, hv9⟩ := own_form hr9; subst hv9; have hxb := CA.out.b 2 (X := XB) rfl; have gla := lt_of_block hxb; have ga3 := cell_of_blkP hxb (j := 3) (u := vm) rfl; have gaf3 := blk_free hxb 3; clear hr9 hg9 hf9 hxb CG l2 c2_0 f2_0 c2_1 f2_1 c2_2 f2_2 c2_3 f2_3 l0 c0_0 f0_0 c0_1 f0_1 c0_2 f0_2 c0_3 f0_3 c0_4 f0_4)
          have hl9 : (ms ++ [(Co.cmOf m g, Value.slice pI IN cI, Value.slice pN NN cN)]).length = ms.length + 1 := by simp
          rw [hl9] at CA
          have CT := Lib.hid CA.out.tl.tl
          obtain ⟨wz, HWZ⟩ : ∃ q, Hid (q = wa.setCell ⟨XB, 3, none⟩ (.slice pc (ms.length + 1) cc)) := ⟨_, Lib.hid rfl⟩
          have CZ : Hid (Mp w dn (ms ++ [(Co.cmOf m g, Value.slice pI IN cI, Value.slice pN NN cN)]) vo (.slice pc (ms.length + 1) cc) [(XB, #[.string c.name, .bool c.actor, .slice pg FN cg, .slice pc (ms.length + 1) cc], 52), (CB, #[.string c.name, .bool c.actor, .slice pf FN cf, .slice (some ⟨b2, o2, none⟩) MN cm], 55), (OUT, #[vo], 29), (R, #[.slice none 0 0], 29), (P, #[.slice (some ⟨b1, o1, none⟩) CN cp], 24)] [AM (ms ++ [(Co.cmOf m g, Value.slice pI IN cI, Value.slice pN NN cN)]), RN (.slice pg FN cg) c.fields, AC dn] wz) := Lib.hid ((CT.out.set 0 rfl (by rw [HWZ.out]; exact gr_set wa XB 3 _) (by rw [HWZ.out]; exact heap_set (j := 3) _ (CT.out.b 0 rfl))).nrm rfl)
          rw [← HWZ.out]
          clear HWZ CT CA gla ga3 gaf3
          go_roundg (MN - (k + 1))
          case measure => omega
          case rel => exact ⟨k + 1, _, _, by go_num, by omega, rfl, HMK, CZ⟩
       ·obtain rfl : MN = k := by omega
        have HMS2 : Hid (Co.cmsOf cs c c.methods = some (ms.map Prod.fst)) := Lib.hid (by have h9 := HMS.out; rw [List.take_of_length_le (by rw [HMN.out]; exact Nat.le_refl _)] at h9; exact h9)
        obtain ⟨pv9, cv9, hv9⟩ := own_form CI.out.q.mts
        obtain ⟨ML, hML⟩ : ∃ q, ms.length = q := ⟨_, rfl⟩
        rw [hML] at hv9
        subst hv9
        have CS := Lib.hid (Mp.seal CI.out)
        have HDL : Hid (dn.length ≤ 1000) := Lib.hid (by have h9 := (Co.ccsOf_get HDN.out).1; rw [List.length_map, List.length_take] at h9; omega)
        have HDK : Hid (Co.ccsOf cs (cs.take (j + 1)) = some ((dn ++ [(Co.ccOf c (ms.map Prod.fst), Value.slice pg FN cg, Value.slice pv9 ML cv9)]).map Prod.fst)) := Lib.hid (by rw [take_next HC.out, List.map_append]; exact Co.ccsOf_app HDN.out HMS2.out)
        clear CI HMS hML hk hlk
        obtain ⟨i0, hi0, hz0, hz1, hz2⟩ := info_parts ccInfo
        obtain ⟨G, wg, HG, HWG, hxg, CG⟩ := CS.out.boxE #[.string c.name, .bool c.actor, .slice pg FN cg, .slice pv9 ML cv9] 52
        obtain ⟨l0, c0_0, f0_0, c0_1, f0_1, c0_2, f0_2, c0_3, f0_3⟩ := cells4 (CS.out.b 0 rfl)
        obtain ⟨l2, c2_0, f2_0⟩ := cells1 (CS.out.b 2 rfl)
        go_wp2_with (at_builtin; rw [← HG.out, ← HWG.out]; refine wpList_app1 ccCells_len rfl _ _ 27 rfl i0 (.agg #[.string ⟨#[]⟩, .bool false, .slice none 0 0, .slice none 0 0]) 72 Tryz.underlying27 hi0 hz0 hz1 hz2 rfl (by decide) rfl CG.out.q.out G #[.string c.name, .bool c.actor, .slice pg FN cg, .slice pv9 ML cv9] (Co.ccOf c (ms.map Prod.fst), Value.slice pg FN cg, Value.slice pv9 ML cv9) rfl (CG.out.b 0 rfl) rfl (ccCells_one ⟨HNMC.out, CG.out.o 1 rfl, CG.out.o 0 rfl⟩) (by have h9 := HDL.out; unfold maxLen; omega) (by have h9 := HDL.out; omega) (Nat.le_trans CG.out.hB CG.out.le) ?_; intro v9 wa hr9 hg9 hf9; have CA := Lib.hid (Mp.pushC CG.out HNMC.out hr9 hg9 hf9).tl; obtain ⟨pc, cc, hv9⟩ := own_form hr9; subst hv9; have hxb := CA.out.b 2 (X := OUT) rfl; have gla := lt_of_block hxb; have ga0 := cell_of_blkP hxb (j := 0) (u := vo) rfl; have gaf0 := blk_free hxb 0; clear hr9 hg9 hf9 hxb CG l0 c0_0 f0_0 c0_1 f0_1 c0_2 f0_2 c0_3 f0_3 l2 c2_0 f2_0)
        have hl9 : (dn ++ [(Co.ccOf c (ms.map Prod.fst), Value.slice pg FN cg, Value.slice pv9 ML cv9)]).length = dn.length + 1 := by simp
        rw [hl9] at CA
        have CT := Lib.hid CA.out.tl.tl
        obtain ⟨wz, HWZ⟩ : ∃ q, Hid (q = wa.setCell ⟨OUT, 0, none⟩ (.slice pc (dn.length + 1) cc)) := ⟨_, Lib.hid rfl⟩
        have CZ : Hid (Mp w (dn ++ [(Co.ccOf c (ms.map Prod.fst), Value.slice pg FN cg, Value.slice pv9 ML cv9)]) [] (.slice pc (dn.length + 1) cc) (.slice none 0 0) [(OUT, #[(.slice pc (dn.length + 1) cc)], 29), (R, #[.slice none 0 0], 29), (P, #[.slice (some ⟨b1, o1, none⟩) CN cp], 24)] [AC (dn ++ [(Co.ccOf c (ms.map Prod.fst), Value.slice pg FN cg, Value.slice pv9 ML cv9)])] wz) := Lib.hid ((CT.out.set 0 rfl (by rw [HWZ.out]; exact gr_set wa OUT 0 _) (by rw [HWZ.out]; exact heap_set (j := 0) _ (CT.out.b 0 rfl))).nrm rfl)
        rw [← HWZ.out]
        clear HWZ CT CA gla ga0 gaf0
        go_roundg (CN - (j + 1))
        case measure => omega
        case rel => exact ⟨j + 1, _, _, by go_num, by omega, rfl, HDK, CZ⟩
    ·obtain rfl : CN = j := by omega
     have HDN2 : Hid (Co.ccsOf cs cs = some (dn.map Prod.fst)) := Lib.hid (by have h9 := HDN.out; rw [List.take_of_length_le (by rw [HN.out]; exact Nat.le_refl _)] at h9; exact h9)
     obtain ⟨po, co, hv9⟩ := own_form CR.out.q.out
     obtain ⟨ON, hON⟩ : ∃ q, dn.length = q := ⟨_, rfl⟩
     rw [hON] at hv9
     subst hv9
     clear HDN hON hlt hj
     obtain ⟨l0, c0_0, f0_0⟩ := cells1 (CR.out.b 0 rfl)
     obtain ⟨l1, c1_0, f1_0⟩ := cells1 (CR.out.b 1 rfl)
     go_wp2_with fail
     refine Mz.retC CR.out 1 rfl Tryz.results12 rfl rfl rfl (fun W9 h9 => ?_)
     obtain ⟨hb9, hs9⟩ := Mp.fin h9
     exact pp_ok HCK.out HDN2.out hb9 hs9
 | cons n r =>
   rw [hck] at hown
   have HCK := Lib.hid hck
   obtain ⟨gk, hgk, hRk, hk0⟩ : ∃ g, pk = some ⟨g, 0, none⟩ ∧ R < g ∧ Hid (w3.cell? ⟨g, 0, none⟩ = some (.int .i64 (n : Nat))) := by
    rcases hown.2 with ⟨e, _⟩ | ⟨g, cap, cur, e, hbg, hg, hnc, _, _, ht⟩
    ·injection e with _ e _
     cases e
    ·injection e with e1 e2 e3
     refine ⟨g, e1, Nat.lt_of_lt_of_le HRL.out hbg, Lib.hid (cell_of_blkP hg ?_)⟩
     have h9 : (List.take ((n :: r).length * 1) cur.toList)[0]? = some (.int .i64 (n : Nat)) := by rw [ht]; rfl
     rw [List.getElem?_take_of_lt (by simp), Array.getElem?_toList] at h9
     exact h9
   subst hgk
   obtain ⟨KN, hKN⟩ : ∃ q, (n :: r).length = q := ⟨_, rfl⟩
   have hkp : (0 : Int) < (KN : Int) := by rw [← hKN, List.length_cons]; omega
   rw [hKN]
   have HKC := hk0
   clear hck hown hKN hk0
   go_upto_region 3 with fail
   obtain ⟨wd, HWD, CD⟩ := C4.out.drewE
   have HC0 : Hid (wd.cell? ⟨gk, 0, none⟩ = some (.int .i64 (n : Nat))) := Lib.hid (by rw [HWD.out]; exact HKC.out)
   have HNE : Hid (gk ≠ R) := Lib.hid (by omega)
   refine wp_region_held_drew (S := fun W => W.cell? ⟨gk, 0, none⟩ = some (.int .i64 (n : Nat))) (by kernel_rfl) (by rw [← HWD.out]; exact HC0.out) (fun hHeld => ?_)
   rw [← HWD.out] at hHeld ⊢
   clear HWD C4
   refine rT 0 (some 18) ?_
   try simp only [Act.put, q0, q1, q2]
   refine rT 1 (some 19) ?_
   try simp only [Act.put, q0, q1, q2]
   refine rT 2 (some 20) ?_
   try simp only [Act.put, q0, q1, q2]
   refine rT 3 (some 21) ?_
   try simp only [Act.put, q0, q1, q2]
   clear hHeld
   obtain ⟨l0, c0_0, f0_0⟩ := cells1 (CD.out.b 0 rfl)
   refine rR1 4 none (fun K hK => ?_)
   go_simp
   clear l0 c0_0 f0_0
   refine hK.out _ _ ?_ (fun hHeld => ?_)
   ·exact gr_cell (gr_set wd R 0 _) HC0.out (ne_sm HNE.out)
   clear hK K
   try simp only [Act.put, q0, q1, q2]
   refine rT 5 (some 3) ?_
   try simp only [Act.put, q0, q1, q2]
   refine wpAnyH_done (by kernel_rfl) ?_ _
   go_wp2_with fail
   refine Mz.retC CD.out 0 rfl Tryz.results12 rfl rfl rfl (fun W9 h9 => pp_bad HCK.out h9.gr.fresh)
end Cw
end Go.Proofs.YtcnmfcgmnkncaaaGreatDoor
namespace Go.Proofs.YtcnmfcgmnkncaaaGreatDoor
namespace Cw
open Go.RowKit Go.Maps Pw
set_option maxRecDepth 100000 in
set_option maxHeartbeats 2000000 in
theorem wrapR_any (n : Int) (w : World) : Calls Tryz.prog 46 #[.int .i64 n] w fun e w' => e = .returned (.int .i64 (Co.wrap n)) ∧ w' = w := by
 obtain ⟨m, hm⟩ : ∃ q, n.tmod 4611686018427387904 = q := ⟨_, rfl⟩
 have hb : -4611686018427387903 ≤ m ∧ m ≤ 4611686018427387903 := by
  rw [← hm]
  have h1 : (n.tmod 4611686018427387904).natAbs < 4611686018427387904 := by
   rw [Int.natAbs_tmod]
   exact Nat.mod_lt _ (by decide)
  omega
 have hd : ∃ k : Int, n = m + 4611686018427387904 * k := ⟨n.tdiv 4611686018427387904, by
  have := Int.mul_tdiv_add_tmod n 4611686018427387904
  omega⟩
 obtain ⟨k, hk⟩ := hd
 have HM := Lib.hid hm
 by_cases h1 : 2305843009213693952 ≤ m
 ·have HE : Hid (Co.wrap n = m - 4611686018427387904) := Lib.hid (by unfold Co.wrap; omega)
  have HW : Hid (wrap64 m = m) := Lib.hid (by unfold wrap64; omega)
  have HW2 : Hid (wrap64 (m - 4611686018427387904) = m - 4611686018427387904) := Lib.hid (by unfold wrap64; omega)
  have hm1 := HM.out
  have hw1 := HW.out
  have hw2 := HW2.out
  clear hm hk hb
  go_enter Tryz.func46, Tryz.ntmps46
  go_wp2_with fail
  go_ret
  rw [HE.out]
  first
   | exact ⟨rfl, rfl⟩
   | (simp [HW2.out]; done)
   | (rw [HM.out]; exact ⟨rfl, rfl⟩)
   | (simp [HM.out]; done)
 ·by_cases h2 : m < -2305843009213693952
  ·have HE : Hid (Co.wrap n = m + 4611686018427387904) := Lib.hid (by unfold Co.wrap; omega)
   have HW : Hid (wrap64 m = m) := Lib.hid (by unfold wrap64; omega)
   have HW2 : Hid (wrap64 (m + 4611686018427387904) = m + 4611686018427387904) := Lib.hid (by unfold wrap64; omega)
   have hm1 := HM.out
   have hw1 := HW.out
   have hw2 := HW2.out
   clear hm hk hb
   go_enter Tryz.func46, Tryz.ntmps46
   go_wp2_with fail
   go_ret
   rw [HE.out]
   first
    | exact ⟨rfl, rfl⟩
    | (simp [HW2.out]; done)
    | (rw [HM.out]; exact ⟨rfl, rfl⟩)
    | (simp [HM.out]; done)
  ·have HE : Hid (Co.wrap n = m) := Lib.hid (by unfold Co.wrap; omega)
   have HW : Hid (wrap64 m = m) := Lib.hid (by unfold wrap64; omega)
   have hm1 := HM.out
   have hw1 := HW.out
   clear hm hk hb
   go_enter Tryz.func46, Tryz.ntmps46
   go_wp2_with fail
   go_ret
   rw [HE.out]
   first
    | exact ⟨rfl, rfl⟩
    | (rw [HM.out]; exact ⟨rfl, rfl⟩)
    | (simp [HM.out]; done)
set_option maxRecDepth 100000 in
set_option maxHeartbeats 2000000 in
theorem bitR_any (b : Bool) (w : World) : Calls Tryz.prog 71 #[.bool b] w fun e w' => e = .returned (.int .i64 (Co.bit b)) ∧ w' = w := by
 cases b
 ·go_enter Tryz.func71, Tryz.ntmps71
  go_wp2_with fail
  go_ret
  exact ⟨rfl, rfl⟩
 ·go_enter Tryz.func71, Tryz.ntmps71
  go_wp2_with fail
  go_ret
  exact ⟨rfl, rfl⟩
set_option maxRecDepth 100000 in
set_option maxHeartbeats 2000000 in
theorem resultR0 (a b : Int) (w : World) : Calls Tryz.prog 72 #[.int .i64 0, .int .i64 a, .int .i64 b] w fun e w' => e = .returned (.tuple #[.int .i64 (Co.wrap (a + b)), .bool true]) ∧ Below w.heap.size w w' := by
 have K : Hid (∀ w, Calls Tryz.prog 46 #[.int .i64 (wrap64 (a + b))] w fun e w' => e = .returned (.int .i64 (Co.wrap (a + b))) ∧ w' = w) := Lib.hid (fun w => by
  have h := wrapR_any (wrap64 (a + b)) w
  rw [wrap_wrap] at h
  exact h)
 obtain ⟨Z, hZ⟩ : ∃ X, Co.wrap (a + b) = X := ⟨_, rfl⟩
 rw [hZ] at K ⊢
 go_enter Tryz.func72, Tryz.ntmps72
 go_wp2_with fail
 refine (K.out _).mono ?_
 rintro e w' ⟨rfl, rfl⟩
 go_wp2_with fail
 go_ret2
 exact ⟨rfl, Below.refl _ _⟩
set_option maxRecDepth 100000 in
set_option maxHeartbeats 2000000 in
theorem resultR1 (a b : Int) (w : World) : Calls Tryz.prog 72 #[.int .i64 1, .int .i64 a, .int .i64 b] w fun e w' => e = .returned (.tuple #[.int .i64 (Co.wrap (a - b)), .bool true]) ∧ Below w.heap.size w w' := by
 have K : Hid (∀ w, Calls Tryz.prog 46 #[.int .i64 (wrap64 (a - b))] w fun e w' => e = .returned (.int .i64 (Co.wrap (a - b))) ∧ w' = w) := Lib.hid (fun w => by
  have h := wrapR_any (wrap64 (a - b)) w
  rw [wrap_wrap] at h
  exact h)
 obtain ⟨Z, hZ⟩ : ∃ X, Co.wrap (a - b) = X := ⟨_, rfl⟩
 rw [hZ] at K ⊢
 go_enter Tryz.func72, Tryz.ntmps72
 go_wp2_with fail
 refine (K.out _).mono ?_
 rintro e w' ⟨rfl, rfl⟩
 go_wp2_with fail
 go_ret2
 exact ⟨rfl, Below.refl _ _⟩
set_option maxRecDepth 100000 in
set_option maxHeartbeats 2000000 in
theorem resultR2 (a b : Int) (w : World) : Calls Tryz.prog 72 #[.int .i64 2, .int .i64 a, .int .i64 b] w fun e w' => e = .returned (.tuple #[.int .i64 (Co.wrap (a * b)), .bool true]) ∧ Below w.heap.size w w' := by
 have K : Hid (∀ w, Calls Tryz.prog 46 #[.int .i64 (wrap64 (a * b))] w fun e w' => e = .returned (.int .i64 (Co.wrap (a * b))) ∧ w' = w) := Lib.hid (fun w => by
  have h := wrapR_any (wrap64 (a * b)) w
  rw [wrap_wrap] at h
  exact h)
 obtain ⟨Z, hZ⟩ : ∃ X, Co.wrap (a * b) = X := ⟨_, rfl⟩
 rw [hZ] at K ⊢
 go_enter Tryz.func72, Tryz.ntmps72
 go_wp2_with fail
 refine (K.out _).mono ?_
 rintro e w' ⟨rfl, rfl⟩
 go_wp2_with fail
 go_ret2
 exact ⟨rfl, Below.refl _ _⟩
set_option maxRecDepth 100000 in
set_option maxHeartbeats 2000000 in
theorem resultR30 (a : Int) (w : World) : Calls Tryz.prog 72 #[.int .i64 3, .int .i64 a, .int .i64 0] w fun e w' => e = .returned (.tuple #[.int .i64 0, .bool false]) ∧ Below w.heap.size w w' := by
 go_enter Tryz.func72, Tryz.ntmps72
 go_wp2_with fail
 go_ret2
 exact ⟨rfl, Below.refl _ _⟩
set_option maxRecDepth 100000 in
set_option maxHeartbeats 2000000 in
theorem resultR3 (a b : Int) (hb : b ≠ 0) (ha : Q62 a) (ha2 : -2305843009213693951 ≤ a) (w : World) : Calls Tryz.prog 72 #[.int .i64 3, .int .i64 a, .int .i64 b] w fun e w' => e = .returned (.tuple #[.int .i64 (a.tdiv b), .bool true]) ∧ Below w.heap.size w w' := by
 have h0 : (b == 0) = false := beq_eq_false_iff_ne.2 hb
 have hw : wrap64 (a.tdiv b) = a.tdiv b := by have h := q62_div (b := b) ha ha2; have := h.1; have := h.2; unfold wrap64; omega
 have HW := Lib.hid hw
 have HB := Lib.hid hb
 clear hw hb
 go_enter Tryz.func72, Tryz.ntmps72
 go_wp2_with fail
 go_ret2
 try rw [HW.out]
 exact ⟨rfl, Below.refl _ _⟩
set_option maxRecDepth 100000 in
set_option maxHeartbeats 2000000 in
theorem resultR40 (a : Int) (w : World) : Calls Tryz.prog 72 #[.int .i64 4, .int .i64 a, .int .i64 0] w fun e w' => e = .returned (.tuple #[.int .i64 0, .bool false]) ∧ Below w.heap.size w w' := by
 go_enter Tryz.func72, Tryz.ntmps72
 go_wp2_with fail
 go_ret2
 exact ⟨rfl, Below.refl _ _⟩
set_option maxRecDepth 100000 in
set_option maxHeartbeats 2000000 in
theorem resultR4 (a b : Int) (hb : b ≠ 0) (ha : Q62 a) (ha2 : -2305843009213693951 ≤ a) (w : World) : Calls Tryz.prog 72 #[.int .i64 4, .int .i64 a, .int .i64 b] w fun e w' => e = .returned (.tuple #[.int .i64 (a.tmod b), .bool true]) ∧ Below w.heap.size w w' := by
 have h0 : (b == 0) = false := beq_eq_false_iff_ne.2 hb
 have hw : wrap64 (a.tmod b) = a.tmod b := by have h := q62_mod (b := b) ha ha2; have := h.1; have := h.2; unfold wrap64; omega
 have HW := Lib.hid hw
 have HB := Lib.hid hb
 clear hw hb
 go_enter Tryz.func72, Tryz.ntmps72
 go_wp2_with fail
 go_ret2
 try rw [HW.out]
 exact ⟨rfl, Below.refl _ _⟩
set_option maxRecDepth 100000 in
set_option maxHeartbeats 2000000 in
theorem resultR5 (a b : Int) (w : World) : Calls Tryz.prog 72 #[.int .i64 5, .int .i64 a, .int .i64 b] w fun e w' => e = .returned (.tuple #[.int .i64 (Co.bit ((a == b))), .bool true]) ∧ Below w.heap.size w w' := by
 have K : Hid (∀ B w, Calls Tryz.prog 71 #[.bool B] w fun e w' => e = .returned (.int .i64 (Co.bit B)) ∧ w' = w) := Lib.hid bitR_any
 go_enter Tryz.func72, Tryz.ntmps72
 go_wp2_with fail
 refine (K.out _ _).mono ?_
 rintro e w' ⟨rfl, rfl⟩
 go_wp2_with fail
 go_ret2
 exact ⟨rfl, Below.refl _ _⟩
set_option maxRecDepth 100000 in
set_option maxHeartbeats 2000000 in
theorem resultR6 (a b : Int) (w : World) : Calls Tryz.prog 72 #[.int .i64 6, .int .i64 a, .int .i64 b] w fun e w' => e = .returned (.tuple #[.int .i64 (Co.bit ((a != b))), .bool true]) ∧ Below w.heap.size w w' := by
 have K : Hid (∀ B w, Calls Tryz.prog 71 #[.bool B] w fun e w' => e = .returned (.int .i64 (Co.bit B)) ∧ w' = w) := Lib.hid bitR_any
 go_enter Tryz.func72, Tryz.ntmps72
 go_wp2_with fail
 refine (K.out _ _).mono ?_
 rintro e w' ⟨rfl, rfl⟩
 go_wp2_with fail
 go_ret2
 exact ⟨rfl, Below.refl _ _⟩
set_option maxRecDepth 100000 in
set_option maxHeartbeats 2000000 in
theorem resultR7 (a b : Int) (w : World) : Calls Tryz.prog 72 #[.int .i64 7, .int .i64 a, .int .i64 b] w fun e w' => e = .returned (.tuple #[.int .i64 (Co.bit (decide (a < b))), .bool true]) ∧ Below w.heap.size w w' := by
 have K : Hid (∀ B w, Calls Tryz.prog 71 #[.bool B] w fun e w' => e = .returned (.int .i64 (Co.bit B)) ∧ w' = w) := Lib.hid bitR_any
 go_enter Tryz.func72, Tryz.ntmps72
 go_wp2_with fail
 refine (K.out _ _).mono ?_
 rintro e w' ⟨rfl, rfl⟩
 go_wp2_with fail
 go_ret2
 exact ⟨rfl, Below.refl _ _⟩
set_option maxRecDepth 100000 in
set_option maxHeartbeats 2000000 in
theorem resultR8 (a b : Int) (w : World) : Calls Tryz.prog 72 #[.int .i64 8, .int .i64 a, .int .i64 b] w fun e w' => e = .returned (.tuple #[.int .i64 (Co.bit (decide (a ≤ b))), .bool true]) ∧ Below w.heap.size w w' := by
 have K : Hid (∀ B w, Calls Tryz.prog 71 #[.bool B] w fun e w' => e = .returned (.int .i64 (Co.bit B)) ∧ w' = w) := Lib.hid bitR_any
 go_enter Tryz.func72, Tryz.ntmps72
 go_wp2_with fail
 refine (K.out _ _).mono ?_
 rintro e w' ⟨rfl, rfl⟩
 go_wp2_with fail
 go_ret2
 exact ⟨rfl, Below.refl _ _⟩
set_option maxRecDepth 100000 in
set_option maxHeartbeats 2000000 in
theorem resultR9 (a b : Int) (w : World) : Calls Tryz.prog 72 #[.int .i64 9, .int .i64 a, .int .i64 b] w fun e w' => e = .returned (.tuple #[.int .i64 (Co.bit (decide (b < a))), .bool true]) ∧ Below w.heap.size w w' := by
 have K : Hid (∀ B w, Calls Tryz.prog 71 #[.bool B] w fun e w' => e = .returned (.int .i64 (Co.bit B)) ∧ w' = w) := Lib.hid bitR_any
 go_enter Tryz.func72, Tryz.ntmps72
 go_wp2_with fail
 refine (K.out _ _).mono ?_
 rintro e w' ⟨rfl, rfl⟩
 go_wp2_with fail
 go_ret2
 exact ⟨rfl, Below.refl _ _⟩
set_option maxRecDepth 100000 in
set_option maxHeartbeats 2000000 in
theorem resultR10 (a b : Int) (w : World) : Calls Tryz.prog 72 #[.int .i64 10, .int .i64 a, .int .i64 b] w fun e w' => e = .returned (.tuple #[.int .i64 (Co.bit (decide (b ≤ a))), .bool true]) ∧ Below w.heap.size w w' := by
 have K : Hid (∀ B w, Calls Tryz.prog 71 #[.bool B] w fun e w' => e = .returned (.int .i64 (Co.bit B)) ∧ w' = w) := Lib.hid bitR_any
 go_enter Tryz.func72, Tryz.ntmps72
 go_wp2_with fail
 refine (K.out _ _).mono ?_
 rintro e w' ⟨rfl, rfl⟩
 go_wp2_with fail
 go_ret2
 exact ⟨rfl, Below.refl _ _⟩
theorem result_any (o a b : Int) (h0 : 0 ≤ o) (h1 : o ≤ 10) (ha : Q62 a) (ha2 : -2305843009213693951 ≤ a) (_hb : Q62 b) (w : World) :
 Calls Tryz.prog 72 #[.int .i64 o, .int .i64 a, .int .i64 b] w fun e w' => e = .returned (.tuple #[.int .i64 ((Co.calcO o a b).getD 0), .bool (Co.calcO o a b).isSome]) ∧ Below w.heap.size w w' := by
 have hcase : o = 0 ∨ o = 1 ∨ o = 2 ∨ o = 3 ∨ o = 4 ∨ o = 5 ∨ o = 6 ∨ o = 7 ∨ o = 8 ∨ o = 9 ∨ o = 10 := by omega
 rcases hcase with rfl | rfl | rfl | rfl | rfl | rfl | rfl | rfl | rfl | rfl | rfl
 ·exact resultR0 a b w
 ·exact resultR1 a b w
 ·exact resultR2 a b w
 ·by_cases hz : b = 0
  ·subst hz
   exact resultR30 a w
  ·have e : Co.calcO 3 a b = some (a.tdiv b) := by unfold Co.calcO; rw [if_neg (by decide), if_neg (by decide), if_neg (by decide), if_pos rfl, if_neg hz]
   rw [e]
   exact resultR3 a b hz ha ha2 w
 ·by_cases hz : b = 0
  ·subst hz
   exact resultR40 a w
  ·have e : Co.calcO 4 a b = some (a.tmod b) := by unfold Co.calcO; rw [if_neg (by decide), if_neg (by decide), if_neg (by decide), if_neg (by decide), if_pos rfl, if_neg hz]
   rw [e]
   exact resultR4 a b hz ha ha2 w
 ·exact resultR5 a b w
 ·exact resultR6 a b w
 ·exact resultR7 a b w
 ·exact resultR8 a b w
 ·exact resultR9 a b w
 ·exact resultR10 a b w
end Cw
end Go.Proofs.YtcnmfcgmnkncaaaGreatDoor
