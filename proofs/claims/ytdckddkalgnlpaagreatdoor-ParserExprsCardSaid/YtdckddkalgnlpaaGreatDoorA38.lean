/-
  The reference's equality of programs: Same, walked.
-/
import Derived.Test.YtdckddkalgnlpaaGreatDoorA11
import Derived.Test.YtdckddkalgnlpaaGreatDoorA37
namespace Go.Proofs.YtdckddkalgnlpaaGreatDoor
open Go.RowKit Go.Maps
theorem sameCs_no {l1 l2 : List Tr.C} {j : Nat} {x y : Tr.C} (hx : l1[j]? = some x) (hy : l2[j]? = some y) (h : x ≠ y) : Sy.sameCs l1 l2 = false := by
 rw [Bool.eq_false_iff]
 intro h2
 rw [Sy.sameCs_iff] at h2
 rw [h2, hy] at hx
 exact h (Option.some.inj hx).symm
theorem ms_no {l1 l2 : List Tr.M} {j : Nat} {x y : Tr.M} (hx : l1[j]? = some x) (hy : l2[j]? = some y) (h : x ≠ y) : l1 ≠ l2 := by
 intro h2
 rw [h2, hy] at hx
 exact h (Option.some.inj hx).symm
theorem two_box (w : World) (A B : Array Value) (t : TypeId) : Below w.heap.size w ((w.alloc (.cells A t)).alloc (.cells B t)).drew ∧ ∀ W, Below ((w.alloc (.cells A t)).alloc (.cells B t)).drew.heap.size ((w.alloc (.cells A t)).alloc (.cells B t)).drew W →
 (∀ (j : Nat) (u : Value), A[j]? = some u → W.cell? ⟨w.heap.size, j, none⟩ = some u) ∧ (∀ (j : Nat) (u : Value), B[j]? = some u → W.cell? ⟨w.heap.size + 1, j, none⟩ = some u) := by
 have h1 := below_box w (.cells A t)
 have h2 := below_box (w.alloc (.cells A t)) (.cells B t)
 have h3 : Below (w.alloc (.cells A t)).heap.size (w.alloc (.cells A t)) ((w.alloc (.cells A t)).alloc (.cells B t)).drew := h2.drew
 have h4 : Below ((w.alloc (.cells A t)).alloc (.cells B t)).heap.size ((w.alloc (.cells A t)).alloc (.cells B t)) ((w.alloc (.cells A t)).alloc (.cells B t)).drew := (Below.refl _ _).drew
 refine ⟨h1.trans (h3.mono h1.size), fun W hb => ⟨fun j u hu => cell_keep' hb (cell_keep' h3 (box_cell w A t j u hu)), fun j u hu => ?_⟩⟩
 have h5 := box_cell (w.alloc (.cells A t)) B t j u hu
 rw [World.size_alloc] at h5
 exact cell_keep' hb (cell_keep' h4 h5)
set_option maxRecDepth 100000 in
set_option maxHeartbeats 20000000 in
theorem refSame_any (l1 l2 : List Tr.C) (v1 v2 : Value) (w : World) (h1 : SlC w v1 l1) (h2 : SlC w v2 l2) :
 Calls Tryz.prog 12 #[.agg #[v1], .agg #[v2]] w fun r w' => r = .returned (.bool (Sy.sameCs l1 l2)) ∧ Below w.heap.size w w' := by
 obtain ⟨p1, c1, rfl⟩ := h1.form
 obtain ⟨p2, c2, rfl⟩ := h2.form
 have hn1 : l1.length ≤ 9223372036854775807 := by have := h1.len; unfold maxLen at this; exact this
 have hn2 : l2.length ≤ 9223372036854775807 := by have := h2.len; unfold maxLen at this; exact this
 obtain ⟨N1, hN1⟩ : ∃ q, l1.length = q := ⟨_, rfl⟩
 obtain ⟨N2, hN2⟩ : ∃ q, l2.length = q := ⟨_, rfl⟩
 rw [hN1] at h1 hn1 ⊢
 rw [hN2] at h2 hn2 ⊢
 by_cases hne : N1 = N2
 ·subst hne
  have hb1 := below_box w (.cells #[.slice p1 N1 c1] 25)
  have hb2 := hb1.alloc hb1.size (.cells #[.slice p2 N1 c2] 25)
  have hk1 := (MapKept.heap_alloc w (.cells #[.slice p1 N1 c1] 25)).1
  have hk2 := (MapKept.heap_alloc (w.alloc (.cells #[.slice p1 N1 c1] 25)) (.cells #[.slice p2 N1 c2] 25)).1
  have hk1' := ((below_box (w.alloc (.cells #[.slice p1 N1 c1] 25)) (.cells #[.slice p2 N1 c2] 25)).block _ (Array.getElem?_eq_some_iff.1 hk1).1).trans hk1
  obtain ⟨w2, hw2⟩ : ∃ q, q = (w.alloc (.cells #[.slice p1 N1 c1] 25)).alloc (.cells #[.slice p2 N1 c2] 25) := ⟨_, rfl⟩
  obtain ⟨B1, hB1⟩ : ∃ q, w.heap.size = q := ⟨_, rfl⟩
  rw [← hw2] at hb2 hk2 hk1'
  rw [World.size_alloc, hB1] at hk2
  rw [hB1] at hk1'
  have HE0 : Hid (∀ W, Below w2.heap.size w2 W → W.cell? ⟨B1, 0, none⟩ = some (.slice p1 N1 c1) ∧ W.cell? ⟨B1 + 1, 0, none⟩ = some (.slice p2 N1 c2)) := fun W hb =>
   ⟨cell_keep' hb (cell_of_blkP hk1' (j := 0) (u := .slice p1 N1 c1) rfl), cell_keep' hb (cell_of_blkP hk2 (j := 0) (u := .slice p2 N1 c2) rfl)⟩
  have HB2 := Lib.hid hb2
  have HW2 := Lib.hid hw2
  have HB1 := Lib.hid hB1
  have H1 := Lib.hid (h1.keep hb2)
  have H2 := Lib.hid (h2.keep hb2)
  have HN1 := Lib.hid hN1
  have HN2 := Lib.hid hN2
  obtain ⟨e1, e2⟩ := HE0.out w2 (Below.refl _ _)
  clear h1 h2 hN1 hN2 hb1 hb2 hw2 hk1 hk2 hk1' hB1
  go_enter Tryz.func12, Tryz.ntmps12
  go_upto_region 1 with fail
  rw [← HW2.out, HB1.out]
  clear HW2
  go_wp2_with fail
  clear e1 e2
  go_loopg [5, 6, 7, 8] N1 (fun g s5 s6 s7 s8 wr => ∃ j : Nat, s5 = .int .i64 j ∧ j ≤ N1 ∧ g = N1 - j ∧ Hid (l1.take j = l2.take j) ∧ Hid (Below w2.heap.size w2 wr))
  case atStart => exact ⟨0, rfl, Nat.zero_le _, rfl, rfl, Lib.hid (Below.refl _ _)⟩
  case round =>
   obtain ⟨j, rfl, hj, rfl, HT, HB⟩ := hrel
   obtain ⟨w3, hw3⟩ : ∃ q, q = wr := ⟨_, rfl⟩
   rw [← hw3] at HB ⊢
   clear hw3
   obtain ⟨e1, e2⟩ := HE0.out w3 HB.out
   have hl1 := cell_lt' e1
   have hl2 := cell_lt' e2
   by_cases hlt : j < N1
   ·obtain ⟨x, hx⟩ : ∃ x, l1[j]? = some x := ⟨_, List.getElem?_eq_getElem (by rw [HN1.out]; exact hlt)⟩
    obtain ⟨y, hy⟩ : ∃ x, l2[j]? = some x := ⟨_, List.getElem?_eq_getElem (by rw [HN2.out]; exact hlt)⟩
    obtain ⟨bb1, oo1, vx1, vy1, rfl, _, hc1, _, hf1, hm1⟩ := (H1.out.keep HB.out).get hx
    obtain ⟨bb2, oo2, vx2, vy2, rfl, _, hc2, _, hf2, hm2⟩ := (H2.out.keep HB.out).get hy
    obtain ⟨nm, ac, fs, ms⟩ := x
    obtain ⟨nm', ac', fs', ms'⟩ := y
    have hf1 : SlStr w3 vx1 fs := hf1
    have hf2 : SlStr w3 vx2 fs' := hf2
    have hm1 : SlM w3 vy1 ms := hm1
    have hm2 : SlM w3 vy2 ms' := hm2
    obtain ⟨x0, x1, x2, x3⟩ := hc1
    obtain ⟨y0, y1, y2, y3⟩ := hc2
    simp only [] at x0 x1 x2 x3 y0 y1 y2 y3
    obtain ⟨f1, fc1, rfl⟩ := hf1.form
    obtain ⟨f2, fc2, rfl⟩ := hf2.form
    obtain ⟨m1, mc1, rfl⟩ := hm1.form
    obtain ⟨m2, mc2, rfl⟩ := hm2.form
    have hmn1 : ms.length ≤ 9223372036854775807 := by have := hm1.len; unfold maxLen at this; exact this
    have hmn2 : ms'.length ≤ 9223372036854775807 := by have := hm2.len; unfold maxLen at this; exact this
    obtain ⟨FN1, hFN1⟩ : ∃ q, fs.length = q := ⟨_, rfl⟩
    obtain ⟨FN2, hFN2⟩ : ∃ q, fs'.length = q := ⟨_, rfl⟩
    obtain ⟨MN1, hMN1⟩ : ∃ q, ms.length = q := ⟨_, rfl⟩
    obtain ⟨MN2, hMN2⟩ : ∃ q, ms'.length = q := ⟨_, rfl⟩
    rw [hFN1] at hf1 x2
    rw [hFN2] at hf2 y2
    rw [hMN1] at hm1 x3 hmn1
    rw [hMN2] at hm2 y3 hmn2
    have KF : Hid (∀ W, Below w3.heap.size w3 W → Calls Tryz.prog 30 #[.slice f1 FN1 fc1, .slice f2 FN2 fc2] W fun r w' => r = .returned (.bool (decide (fs = fs'))) ∧ Below W.heap.size W w') := fun W hb => refNames_any fs fs' f1 FN1 fc1 f2 FN2 fc2 W hFN1 hFN2 (hf1.keep hb) (hf2.keep hb)
    have HM1 := Lib.hid hm1
    have HM2 := Lib.hid hm2
    have HMN1 := Lib.hid hMN1
    have HMN2 := Lib.hid hMN2
    have HX := Lib.hid hx
    have HY := Lib.hid hy
    have b3 : (j : Int) < (N1 : Int) := by omega
    have b5 : (0 : Int) ≤ (j : Int) := by omega
    have hl3 := cell_lt' x0
    have hl4 := cell_lt' y0
    clear hx hy hf1 hf2 hm1 hm2 hFN1 hFN2 hMN1 hMN2
    go_upto_region 6 with fail
    go_cut [6, 7] (fun s6 s7 wx => ∃ B6 B7, s6 = .pointer (some ⟨B6, 0, none⟩) ∧ s7 = .pointer (some ⟨B7, 0, none⟩) ∧ Hid (Below w3.heap.size w3 wx) ∧ Hid (∀ W, Below wx.heap.size wx W → (W.cell? ⟨B6, 0, none⟩ = some (.string nm) ∧ W.cell? ⟨B6, 1, none⟩ = some (.bool ac) ∧ W.cell? ⟨B6, 2, none⟩ = some (.slice f1 FN1 fc1) ∧ W.cell? ⟨B6, 3, none⟩ = some (.slice m1 MN1 mc1)) ∧ (W.cell? ⟨B7, 0, none⟩ = some (.string nm') ∧ W.cell? ⟨B7, 1, none⟩ = some (.bool ac') ∧ W.cell? ⟨B7, 2, none⟩ = some (.slice f2 FN2 fc2) ∧ W.cell? ⟨B7, 3, none⟩ = some (.slice m2 MN2 mc2))))
    case first =>
     go_region
     all_goals
      go_wp2_with fail
      go_meet
      first
       | exact ⟨_, _, rfl, rfl, (two_box w3 #[.string nm, .bool ac, .slice f1 FN1 fc1, .slice m1 MN1 mc1] #[.string nm', .bool ac', .slice f2 FN2 fc2, .slice m2 MN2 mc2] _).1, fun W hb => by
        obtain ⟨k1, k2⟩ := (two_box w3 #[.string nm, .bool ac, .slice f1 FN1 fc1, .slice m1 MN1 mc1] #[.string nm', .bool ac', .slice f2 FN2 fc2, .slice m2 MN2 mc2] _).2 W hb
        exact ⟨⟨k1 0 _ rfl, k1 1 _ rfl, k1 2 _ rfl, k1 3 _ rfl⟩, ⟨k2 0 _ rfl, k2 1 _ rfl, k2 2 _ rfl, k2 3 _ rfl⟩⟩⟩
       | exact ⟨_, _, rfl, rfl, (two_box w3 #[.string nm', .bool ac', .slice f2 FN2 fc2, .slice m2 MN2 mc2] #[.string nm, .bool ac, .slice f1 FN1 fc1, .slice m1 MN1 mc1] _).1, fun W hb => by
        obtain ⟨k2, k1⟩ := (two_box w3 #[.string nm', .bool ac', .slice f2 FN2 fc2, .slice m2 MN2 mc2] #[.string nm, .bool ac, .slice f1 FN1 fc1, .slice m1 MN1 mc1] _).2 W hb
        exact ⟨⟨k1 0 _ rfl, k1 1 _ rfl, k1 2 _ rfl, k1 3 _ rfl⟩, ⟨k2 0 _ rfl, k2 1 _ rfl, k2 2 _ rfl, k2 3 _ rfl⟩⟩⟩
    case rest =>
    obtain ⟨B6, B7, rfl, rfl, HWC, HV⟩ := hcut
    clear x0 x1 x2 x3 y0 y1 y2 y3 e1 e2 hl1 hl2 hl3 hl4
    obtain ⟨w4, hw4⟩ : ∃ q, q = wc := ⟨_, rfl⟩
    rw [← hw4] at HWC HV ⊢
    clear hw4
    have HB4 := Lib.hid (below_next HB.out HWC.out)
    obtain ⟨⟨z0, z1, z2, z3⟩, ⟨t0, t1, t2, t3⟩⟩ := HV.out w4 (Below.refl _ _)
    have hz := cell_lt' z0
    have ht := cell_lt' t0
    by_cases hnm : nm = nm'
    ·subst hnm
     by_cases hac : ac = ac'
     ·subst hac
      have KF1 := Lib.hid (KF.out _ HWC.out)
      by_cases hfs : fs = fs'
      ·rw [decide_eq_true hfs] at KF1
       by_cases hmm : MN1 = MN2
       ·subst hmm
        have HEQ3 : Hid (fs = fs') := hfs
        clear hfs KF
        go_wp2_with fail
        refine KF1.out.mono ?_
        rintro e' w5 ⟨rfl, hb5⟩
        clear z0 z1 z2 z3 t0 t1 t2 t3 hz ht
        obtain ⟨⟨z0, z1, z2, z3⟩, ⟨t0, t1, t2, t3⟩⟩ := HV.out w5 hb5
        have HB5 := Lib.hid hb5
        have hz := cell_lt' z0
        have ht := cell_lt' t0
        clear hb5
        go_wp2_with fail
        clear z0 z1 z2 z3 t0 t1 t2 t3 hz ht
        obtain ⟨MN, hMN⟩ : ∃ q, q = MN1 := ⟨_, rfl⟩
        rw [← hMN] at HM1 HM2 HMN1 HMN2 HV hmn1 ⊢
        clear hMN hmn2
        go_loopg [8] MN (fun g s8 wq => ∃ i : Nat, s8 = .int .i64 i ∧ i ≤ MN ∧ g = MN - i ∧ Hid (ms.take i = ms'.take i) ∧ Hid (Below w4.heap.size w4 wq))
        case atStart => exact ⟨0, rfl, Nat.zero_le _, rfl, rfl, HB5⟩
        case round =>
         obtain ⟨i, rfl, hi, rfl, HMT, HBQ⟩ := hrel
         obtain ⟨wm, hwm⟩ : ∃ q, q = wr := ⟨_, rfl⟩
         rw [← hwm] at HBQ ⊢
         clear hwm
         have HWM : Hid (∀ W, Below wm.heap.size wm W → Below w3.heap.size w3 W) := fun W hb => below_next (below_next HWC.out HBQ.out) hb
         have HW2 : Hid (∀ W, Below wm.heap.size wm W → Below w2.heap.size w2 W) := fun W hb => below_next (below_next HB4.out HBQ.out) hb
         obtain ⟨⟨_, _, _, u3⟩, ⟨_, _, _, v3⟩⟩ := HV.out wm HBQ.out
         have hz := cell_lt' u3
         have ht := cell_lt' v3
         by_cases hli : i < MN
         ·obtain ⟨x, hx⟩ : ∃ x, ms[i]? = some x := ⟨_, List.getElem?_eq_getElem (by rw [HMN1.out]; exact hli)⟩
          obtain ⟨y, hy⟩ : ∃ x, ms'[i]? = some x := ⟨_, List.getElem?_eq_getElem (by rw [HMN2.out]; exact hli)⟩
          obtain ⟨mb1, mo1, vx1, vy1, rfl, _, hc1, _, hp1, hb1⟩ := HM1.out.get hx
          obtain ⟨mb2, mo2, vx2, vy2, rfl, _, hc2, _, hp2, hb2⟩ := HM2.out.get hy
          obtain ⟨mn1, ps1, bd1⟩ := x
          obtain ⟨mn2, ps2, bd2⟩ := y
          have hp1 : SlStr w3 vx1 ps1 := hp1
          have hp2 : SlStr w3 vx2 ps2 := hp2
          have hb1 : SlS w3 vy1 bd1 := hb1
          have hb2 : SlS w3 vy2 bd2 := hb2
          obtain ⟨q1, qc1, rfl⟩ := hp1.form
          obtain ⟨q2, qc2, rfl⟩ := hp2.form
          obtain ⟨r1, rc1, rfl, _⟩ := hb1.form
          obtain ⟨r2, rc2, rfl, _⟩ := hb2.form
          obtain ⟨QN1, hQN1⟩ : ∃ q, ps1.length = q := ⟨_, rfl⟩
          obtain ⟨QN2, hQN2⟩ : ∃ q, ps2.length = q := ⟨_, rfl⟩
          obtain ⟨RN1, hRN1⟩ : ∃ q, bd1.length = q := ⟨_, rfl⟩
          obtain ⟨RN2, hRN2⟩ : ∃ q, bd2.length = q := ⟨_, rfl⟩
          rw [hQN1] at hp1 hc1
          rw [hQN2] at hp2 hc2
          rw [hRN1] at hb1 hc1
          rw [hRN2] at hb2 hc2
          obtain ⟨a0, a1, a2⟩ := CellsM.keep hc1 (HWM.out _ (Below.refl _ _))
          obtain ⟨b0, b1, b2⟩ := CellsM.keep hc2 (HWM.out _ (Below.refl _ _))
          simp only [] at a0 a1 a2 b0 b1 b2
          have KP : Hid (∀ W, Below w3.heap.size w3 W → Calls Tryz.prog 30 #[.slice q1 QN1 qc1, .slice q2 QN2 qc2] W fun r w' => r = .returned (.bool (decide (ps1 = ps2))) ∧ Below W.heap.size W w') := fun W hb => refNames_any ps1 ps2 q1 QN1 qc1 q2 QN2 qc2 W hQN1 hQN2 (hp1.keep hb) (hp2.keep hb)
          have KS : Hid (∀ W, Below w3.heap.size w3 W → Calls Tryz.prog 31 #[.slice r1 RN1 rc1, .slice r2 RN2 rc2] W fun r w' => r = .returned (.bool (Sy.sameSs bd1 bd2)) ∧ Below W.heap.size W w') := fun W hb => refSameSs_any _ bd1 bd2 r1 RN1 rc1 r2 RN2 rc2 W (Nat.le_refl _) hRN1 hRN2 (hb1.keep hb) (hb2.keep hb)
          have HMX := Lib.hid hx
          have HMY := Lib.hid hy
          have hl5 := cell_lt' a0
          have hl6 := cell_lt' b0
          have b8 : (i : Int) < (MN : Int) := by omega
          have b9 : (0 : Int) ≤ (i : Int) := by omega
          clear hx hy hc1 hc2 hp1 hp2 hb1 hb2 hQN1 hQN2 hRN1 hRN2
          by_cases hnn : mn1 = mn2
          ·have n5 : (!(mn1.toList == mn2.toList)) = false := by simp [hnn]
           by_cases hpp : ps1 = ps2
           ·rw [decide_eq_true hpp] at KP
            cases hbb : Sy.sameSs bd1 bd2
            ·have HNE : Hid ((⟨nm, ac, fs, ms⟩ : Tr.C) ≠ ⟨nm, ac, fs', ms'⟩) := fun h => by
              injection h with _ _ _ h4
              refine ms_no HMX.out HMY.out (fun h5 => ?_) h4
              injection h5 with _ _ h6
              rw [(Sy.sameSs_iff bd1 bd2).2 h6] at hbb
              cases hbb
             rw [hbb] at KS
             clear hnn hpp hbb
             go_upto_region 12 with fail
             refine wp_region_held_drew (S := fun W => W.cell? ⟨B6, 3, none⟩ = some (.slice (some ⟨mb1, mo1, none⟩) MN mc1) ∧ W.cell? ⟨B7, 3, none⟩ = some (.slice (some ⟨mb2, mo2, none⟩) MN mc2) ∧ W.cell? ⟨mb1, mo1 + i * 3, none⟩ = some (.string mn1) ∧ W.cell? ⟨mb1, mo1 + i * 3 + 1, none⟩ = some (.slice q1 QN1 qc1) ∧ W.cell? ⟨mb1, mo1 + i * 3 + 2, none⟩ = some (.slice r1 RN1 rc1) ∧ W.cell? ⟨mb2, mo2 + i * 3, none⟩ = some (.string mn2) ∧ W.cell? ⟨mb2, mo2 + i * 3 + 1, none⟩ = some (.slice q2 QN2 qc2) ∧ W.cell? ⟨mb2, mo2 + i * 3 + 2, none⟩ = some (.slice r2 RN2 rc2) ∧ Hid (Below wm.heap.size wm W)) (by kernel_rfl) ?_ (fun hHeld => ?_)
             ·exact ⟨u3, v3, a0, a1, a2, b0, b1, b2, Lib.hid (Below.refl _ _).drew⟩
             clear u3 v3 a0 a1 a2 b0 b1 b2
             refine rT 0 (some 69) ?_ (hS := by assumption)
             try simp only [Act.put, List.setIfInBounds_toArray, List.set_cons_zero, List.set_cons_succ]
             refine rT 1 (some 70) ?_ (hS := by assumption)
             try simp only [Act.put, List.setIfInBounds_toArray, List.set_cons_zero, List.set_cons_succ]
             refine rT 2 (some 71) ?_ (hS := by assumption)
             try simp only [Act.put, List.setIfInBounds_toArray, List.set_cons_zero, List.set_cons_succ]
             refine rT 3 (some 72) ?_ (hS := by assumption)
             try simp only [Act.put, List.setIfInBounds_toArray, List.set_cons_zero, List.set_cons_succ]
             refine rT 4 (some 73) ?_ (hS := by assumption)
             try simp only [Act.put, List.setIfInBounds_toArray, List.set_cons_zero, List.set_cons_succ]
             refine rT 5 (some 74) ?_ (hS := by assumption)
             try simp only [Act.put, List.setIfInBounds_toArray, List.set_cons_zero, List.set_cons_succ]
             refine rT 6 (some 75) ?_ (hS := by assumption)
             try simp only [Act.put, List.setIfInBounds_toArray, List.set_cons_zero, List.set_cons_succ]
             refine rT 7 (some 76) ?_ (hS := by assumption)
             try simp only [Act.put, List.setIfInBounds_toArray, List.set_cons_zero, List.set_cons_succ]
             refine rT 8 (some 77) ?_ (hS := by assumption)
             try simp only [Act.put, List.setIfInBounds_toArray, List.set_cons_zero, List.set_cons_succ]
             refine rT 9 (some 78) ?_ (hS := by assumption)
             try simp only [Act.put, List.setIfInBounds_toArray, List.set_cons_zero, List.set_cons_succ]
             refine rT 10 (some 79) ?_ (hS := by assumption)
             try simp only [Act.put, List.setIfInBounds_toArray, List.set_cons_zero, List.set_cons_succ]
             refine rT 11 (some 80) ?_ (hS := by assumption)
             try simp only [Act.put, List.setIfInBounds_toArray, List.set_cons_zero, List.set_cons_succ]
             refine rT 12 (some 81) ?_ (hS := by assumption)
             try simp only [Act.put, List.setIfInBounds_toArray, List.set_cons_zero, List.set_cons_succ]
             refine rT 13 (some 82) ?_ (hS := by assumption)
             try simp only [Act.put, List.setIfInBounds_toArray, List.set_cons_zero, List.set_cons_succ]
             refine rT 14 (some 83) ?_ (hS := by assumption)
             try simp only [Act.put, List.setIfInBounds_toArray, List.set_cons_zero, List.set_cons_succ]
             refine rT 15 (some 84) ?_ (hS := by assumption)
             try simp only [Act.put, List.setIfInBounds_toArray, List.set_cons_zero, List.set_cons_succ]
             refine rT 16 (some 85) ?_ (hS := by assumption)
             try simp only [Act.put, List.setIfInBounds_toArray, List.set_cons_zero, List.set_cons_succ]
             refine rT 17 (some 86) ?_ (hS := by assumption)
             try simp only [Act.put, List.setIfInBounds_toArray, List.set_cons_zero, List.set_cons_succ]
             refine rT 18 (some 87) ?_ (hS := by assumption)
             try simp only [Act.put, List.setIfInBounds_toArray, List.set_cons_zero, List.set_cons_succ]
             refine rT 19 (some 88) ?_ (hS := by assumption)
             try simp only [Act.put, List.setIfInBounds_toArray, List.set_cons_zero, List.set_cons_succ]
             refine rT 20 (some 89) ?_ (hS := by assumption)
             try simp only [Act.put, List.setIfInBounds_toArray, List.set_cons_zero, List.set_cons_succ]
             refine rT 21 (some 90) ?_ (hS := by assumption)
             try simp only [Act.put, List.setIfInBounds_toArray, List.set_cons_zero, List.set_cons_succ]
             refine rT 22 (some 91) ?_ (hS := by assumption)
             try simp only [Act.put, List.setIfInBounds_toArray, List.set_cons_zero, List.set_cons_succ]
             refine rT 23 (some 92) ?_ (hS := by assumption)
             try simp only [Act.put, List.setIfInBounds_toArray, List.set_cons_zero, List.set_cons_succ]
             refine rT 24 (some 93) ?_ (hS := by assumption)
             try simp only [Act.put, List.setIfInBounds_toArray, List.set_cons_zero, List.set_cons_succ]
             refine rT 25 (some 94) ?_ (hS := by assumption)
             try simp only [Act.put, List.setIfInBounds_toArray, List.set_cons_zero, List.set_cons_succ]
             refine rR1 26 (some 95) (fun K hK => ?_)
             go_simp
             with_reducible refine (KP.out _ (HWM.out _ hHeld.2.2.2.2.2.2.2.2.out)).mono ?_
             rintro e w' ⟨rfl, hb⟩
             go_wp2_with fail
             refine hK.out _ _ ?_ (fun hHeld => ?_)
             ·exact ⟨cell_keep' hb hHeld.1, cell_keep' hb hHeld.2.1, cell_keep' hb hHeld.2.2.1, cell_keep' hb hHeld.2.2.2.1, cell_keep' hb hHeld.2.2.2.2.1, cell_keep' hb hHeld.2.2.2.2.2.1, cell_keep' hb hHeld.2.2.2.2.2.2.1, cell_keep' hb hHeld.2.2.2.2.2.2.2.1, Lib.hid (below_next hHeld.2.2.2.2.2.2.2.2.out hb)⟩
             clear hK K
             try simp only [Act.put, List.setIfInBounds_toArray, List.set_cons_zero, List.set_cons_succ]
             clear hb
             refine rT 27 (some 96) ?_ (hS := by assumption)
             try simp only [Act.put, List.setIfInBounds_toArray, List.set_cons_zero, List.set_cons_succ]
             refine rT 28 (some 97) ?_ (hS := by assumption)
             try simp only [Act.put, List.setIfInBounds_toArray, List.set_cons_zero, List.set_cons_succ]
             refine rT 29 (some 98) ?_ (hS := by assumption)
             try simp only [Act.put, List.setIfInBounds_toArray, List.set_cons_zero, List.set_cons_succ]
             refine rT 30 (some 99) ?_ (hS := by assumption)
             try simp only [Act.put, List.setIfInBounds_toArray, List.set_cons_zero, List.set_cons_succ]
             refine rT 31 (some 100) ?_ (hS := by assumption)
             try simp only [Act.put, List.setIfInBounds_toArray, List.set_cons_zero, List.set_cons_succ]
             refine rT 32 (some 101) ?_ (hS := by assumption)
             try simp only [Act.put, List.setIfInBounds_toArray, List.set_cons_zero, List.set_cons_succ]
             refine rT 33 (some 102) ?_ (hS := by assumption)
             try simp only [Act.put, List.setIfInBounds_toArray, List.set_cons_zero, List.set_cons_succ]
             refine rT 34 (some 103) ?_ (hS := by assumption)
             try simp only [Act.put, List.setIfInBounds_toArray, List.set_cons_zero, List.set_cons_succ]
             refine rT 35 (some 104) ?_ (hS := by assumption)
             try simp only [Act.put, List.setIfInBounds_toArray, List.set_cons_zero, List.set_cons_succ]
             refine rT 36 (some 105) ?_ (hS := by assumption)
             try simp only [Act.put, List.setIfInBounds_toArray, List.set_cons_zero, List.set_cons_succ]
             refine rT 37 (some 106) ?_ (hS := by assumption)
             try simp only [Act.put, List.setIfInBounds_toArray, List.set_cons_zero, List.set_cons_succ]
             refine rT 38 (some 107) ?_ (hS := by assumption)
             try simp only [Act.put, List.setIfInBounds_toArray, List.set_cons_zero, List.set_cons_succ]
             refine rT 39 (some 108) ?_ (hS := by assumption)
             try simp only [Act.put, List.setIfInBounds_toArray, List.set_cons_zero, List.set_cons_succ]
             refine rT 40 (some 109) ?_ (hS := by assumption)
             try simp only [Act.put, List.setIfInBounds_toArray, List.set_cons_zero, List.set_cons_succ]
             refine rT 41 (some 110) ?_ (hS := by assumption)
             try simp only [Act.put, List.setIfInBounds_toArray, List.set_cons_zero, List.set_cons_succ]
             refine rR1 42 (some 111) (fun K hK => ?_)
             go_simp
             with_reducible refine (KS.out _ (HWM.out _ hHeld.2.2.2.2.2.2.2.2.out)).mono ?_
             rintro e w' ⟨rfl, hb⟩
             go_wp2_with fail
             refine hK.out _ _ ?_ (fun hHeld => ?_)
             ·exact ⟨cell_keep' hb hHeld.1, cell_keep' hb hHeld.2.1, cell_keep' hb hHeld.2.2.1, cell_keep' hb hHeld.2.2.2.1, cell_keep' hb hHeld.2.2.2.2.1, cell_keep' hb hHeld.2.2.2.2.2.1, cell_keep' hb hHeld.2.2.2.2.2.2.1, cell_keep' hb hHeld.2.2.2.2.2.2.2.1, Lib.hid (below_next hHeld.2.2.2.2.2.2.2.2.out hb)⟩
             clear hK K
             try simp only [Act.put, List.setIfInBounds_toArray, List.set_cons_zero, List.set_cons_succ]
             clear hb
             refine rT 43 (some 112) ?_ (hS := by assumption)
             try simp only [Act.put, List.setIfInBounds_toArray, List.set_cons_zero, List.set_cons_succ]
             refine rT 44 (some 113) ?_ (hS := by assumption)
             try simp only [Act.put, List.setIfInBounds_toArray, List.set_cons_zero, List.set_cons_succ]
             refine wpAnyH_done (by kernel_rfl) ?_ _
             have HZ := Lib.hid hHeld.2.2.2.2.2.2.2.2.out
             clear hHeld
             go_wp2_with fail
             go_ret
             refine ⟨?_, HB2.out.trans ((HW2.out _ HZ.out).mono HB2.out.size)⟩
             rw [sameCs_no HX.out HY.out HNE.out]
             rfl
            ·have HMEQ : Hid ((⟨mn1, ps1, bd1⟩ : Tr.M) = ⟨mn2, ps2, bd2⟩) := by show _ = _; rw [hnn, hpp, (Sy.sameSs_iff bd1 bd2).1 hbb]
             rw [hbb] at KS
             clear hnn hpp hbb
             go_upto_region 12 with fail
             refine wp_region_held_drew (S := fun W => W.cell? ⟨B6, 3, none⟩ = some (.slice (some ⟨mb1, mo1, none⟩) MN mc1) ∧ W.cell? ⟨B7, 3, none⟩ = some (.slice (some ⟨mb2, mo2, none⟩) MN mc2) ∧ W.cell? ⟨mb1, mo1 + i * 3, none⟩ = some (.string mn1) ∧ W.cell? ⟨mb1, mo1 + i * 3 + 1, none⟩ = some (.slice q1 QN1 qc1) ∧ W.cell? ⟨mb1, mo1 + i * 3 + 2, none⟩ = some (.slice r1 RN1 rc1) ∧ W.cell? ⟨mb2, mo2 + i * 3, none⟩ = some (.string mn2) ∧ W.cell? ⟨mb2, mo2 + i * 3 + 1, none⟩ = some (.slice q2 QN2 qc2) ∧ W.cell? ⟨mb2, mo2 + i * 3 + 2, none⟩ = some (.slice r2 RN2 rc2) ∧ Hid (Below wm.heap.size wm W)) (by kernel_rfl) ?_ (fun hHeld => ?_)
             ·exact ⟨u3, v3, a0, a1, a2, b0, b1, b2, Lib.hid (Below.refl _ _).drew⟩
             clear u3 v3 a0 a1 a2 b0 b1 b2
             refine rT 0 (some 69) ?_ (hS := by assumption)
             try simp only [Act.put, List.setIfInBounds_toArray, List.set_cons_zero, List.set_cons_succ]
             refine rT 1 (some 70) ?_ (hS := by assumption)
             try simp only [Act.put, List.setIfInBounds_toArray, List.set_cons_zero, List.set_cons_succ]
             refine rT 2 (some 71) ?_ (hS := by assumption)
             try simp only [Act.put, List.setIfInBounds_toArray, List.set_cons_zero, List.set_cons_succ]
             refine rT 3 (some 72) ?_ (hS := by assumption)
             try simp only [Act.put, List.setIfInBounds_toArray, List.set_cons_zero, List.set_cons_succ]
             refine rT 4 (some 73) ?_ (hS := by assumption)
             try simp only [Act.put, List.setIfInBounds_toArray, List.set_cons_zero, List.set_cons_succ]
             refine rT 5 (some 74) ?_ (hS := by assumption)
             try simp only [Act.put, List.setIfInBounds_toArray, List.set_cons_zero, List.set_cons_succ]
             refine rT 6 (some 75) ?_ (hS := by assumption)
             try simp only [Act.put, List.setIfInBounds_toArray, List.set_cons_zero, List.set_cons_succ]
             refine rT 7 (some 76) ?_ (hS := by assumption)
             try simp only [Act.put, List.setIfInBounds_toArray, List.set_cons_zero, List.set_cons_succ]
             refine rT 8 (some 77) ?_ (hS := by assumption)
             try simp only [Act.put, List.setIfInBounds_toArray, List.set_cons_zero, List.set_cons_succ]
             refine rT 9 (some 78) ?_ (hS := by assumption)
             try simp only [Act.put, List.setIfInBounds_toArray, List.set_cons_zero, List.set_cons_succ]
             refine rT 10 (some 79) ?_ (hS := by assumption)
             try simp only [Act.put, List.setIfInBounds_toArray, List.set_cons_zero, List.set_cons_succ]
             refine rT 11 (some 80) ?_ (hS := by assumption)
             try simp only [Act.put, List.setIfInBounds_toArray, List.set_cons_zero, List.set_cons_succ]
             refine rT 12 (some 81) ?_ (hS := by assumption)
             try simp only [Act.put, List.setIfInBounds_toArray, List.set_cons_zero, List.set_cons_succ]
             refine rT 13 (some 82) ?_ (hS := by assumption)
             try simp only [Act.put, List.setIfInBounds_toArray, List.set_cons_zero, List.set_cons_succ]
             refine rT 14 (some 83) ?_ (hS := by assumption)
             try simp only [Act.put, List.setIfInBounds_toArray, List.set_cons_zero, List.set_cons_succ]
             refine rT 15 (some 84) ?_ (hS := by assumption)
             try simp only [Act.put, List.setIfInBounds_toArray, List.set_cons_zero, List.set_cons_succ]
             refine rT 16 (some 85) ?_ (hS := by assumption)
             try simp only [Act.put, List.setIfInBounds_toArray, List.set_cons_zero, List.set_cons_succ]
             refine rT 17 (some 86) ?_ (hS := by assumption)
             try simp only [Act.put, List.setIfInBounds_toArray, List.set_cons_zero, List.set_cons_succ]
             refine rT 18 (some 87) ?_ (hS := by assumption)
             try simp only [Act.put, List.setIfInBounds_toArray, List.set_cons_zero, List.set_cons_succ]
             refine rT 19 (some 88) ?_ (hS := by assumption)
             try simp only [Act.put, List.setIfInBounds_toArray, List.set_cons_zero, List.set_cons_succ]
             refine rT 20 (some 89) ?_ (hS := by assumption)
             try simp only [Act.put, List.setIfInBounds_toArray, List.set_cons_zero, List.set_cons_succ]
             refine rT 21 (some 90) ?_ (hS := by assumption)
             try simp only [Act.put, List.setIfInBounds_toArray, List.set_cons_zero, List.set_cons_succ]
             refine rT 22 (some 91) ?_ (hS := by assumption)
             try simp only [Act.put, List.setIfInBounds_toArray, List.set_cons_zero, List.set_cons_succ]
             refine rT 23 (some 92) ?_ (hS := by assumption)
             try simp only [Act.put, List.setIfInBounds_toArray, List.set_cons_zero, List.set_cons_succ]
             refine rT 24 (some 93) ?_ (hS := by assumption)
             try simp only [Act.put, List.setIfInBounds_toArray, List.set_cons_zero, List.set_cons_succ]
             refine rT 25 (some 94) ?_ (hS := by assumption)
             try simp only [Act.put, List.setIfInBounds_toArray, List.set_cons_zero, List.set_cons_succ]
             refine rR1 26 (some 95) (fun K hK => ?_)
             go_simp
             with_reducible refine (KP.out _ (HWM.out _ hHeld.2.2.2.2.2.2.2.2.out)).mono ?_
             rintro e w' ⟨rfl, hb⟩
             go_wp2_with fail
             refine hK.out _ _ ?_ (fun hHeld => ?_)
             ·exact ⟨cell_keep' hb hHeld.1, cell_keep' hb hHeld.2.1, cell_keep' hb hHeld.2.2.1, cell_keep' hb hHeld.2.2.2.1, cell_keep' hb hHeld.2.2.2.2.1, cell_keep' hb hHeld.2.2.2.2.2.1, cell_keep' hb hHeld.2.2.2.2.2.2.1, cell_keep' hb hHeld.2.2.2.2.2.2.2.1, Lib.hid (below_next hHeld.2.2.2.2.2.2.2.2.out hb)⟩
             clear hK K
             try simp only [Act.put, List.setIfInBounds_toArray, List.set_cons_zero, List.set_cons_succ]
             clear hb
             refine rT 27 (some 96) ?_ (hS := by assumption)
             try simp only [Act.put, List.setIfInBounds_toArray, List.set_cons_zero, List.set_cons_succ]
             refine rT 28 (some 97) ?_ (hS := by assumption)
             try simp only [Act.put, List.setIfInBounds_toArray, List.set_cons_zero, List.set_cons_succ]
             refine rT 29 (some 98) ?_ (hS := by assumption)
             try simp only [Act.put, List.setIfInBounds_toArray, List.set_cons_zero, List.set_cons_succ]
             refine rT 30 (some 99) ?_ (hS := by assumption)
             try simp only [Act.put, List.setIfInBounds_toArray, List.set_cons_zero, List.set_cons_succ]
             refine rT 31 (some 100) ?_ (hS := by assumption)
             try simp only [Act.put, List.setIfInBounds_toArray, List.set_cons_zero, List.set_cons_succ]
             refine rT 32 (some 101) ?_ (hS := by assumption)
             try simp only [Act.put, List.setIfInBounds_toArray, List.set_cons_zero, List.set_cons_succ]
             refine rT 33 (some 102) ?_ (hS := by assumption)
             try simp only [Act.put, List.setIfInBounds_toArray, List.set_cons_zero, List.set_cons_succ]
             refine rT 34 (some 103) ?_ (hS := by assumption)
             try simp only [Act.put, List.setIfInBounds_toArray, List.set_cons_zero, List.set_cons_succ]
             refine rT 35 (some 104) ?_ (hS := by assumption)
             try simp only [Act.put, List.setIfInBounds_toArray, List.set_cons_zero, List.set_cons_succ]
             refine rT 36 (some 105) ?_ (hS := by assumption)
             try simp only [Act.put, List.setIfInBounds_toArray, List.set_cons_zero, List.set_cons_succ]
             refine rT 37 (some 106) ?_ (hS := by assumption)
             try simp only [Act.put, List.setIfInBounds_toArray, List.set_cons_zero, List.set_cons_succ]
             refine rT 38 (some 107) ?_ (hS := by assumption)
             try simp only [Act.put, List.setIfInBounds_toArray, List.set_cons_zero, List.set_cons_succ]
             refine rT 39 (some 108) ?_ (hS := by assumption)
             try simp only [Act.put, List.setIfInBounds_toArray, List.set_cons_zero, List.set_cons_succ]
             refine rT 40 (some 109) ?_ (hS := by assumption)
             try simp only [Act.put, List.setIfInBounds_toArray, List.set_cons_zero, List.set_cons_succ]
             refine rT 41 (some 110) ?_ (hS := by assumption)
             try simp only [Act.put, List.setIfInBounds_toArray, List.set_cons_zero, List.set_cons_succ]
             refine rR1 42 (some 111) (fun K hK => ?_)
             go_simp
             with_reducible refine (KS.out _ (HWM.out _ hHeld.2.2.2.2.2.2.2.2.out)).mono ?_
             rintro e w' ⟨rfl, hb⟩
             go_wp2_with fail
             refine hK.out _ _ ?_ (fun hHeld => ?_)
             ·exact ⟨cell_keep' hb hHeld.1, cell_keep' hb hHeld.2.1, cell_keep' hb hHeld.2.2.1, cell_keep' hb hHeld.2.2.2.1, cell_keep' hb hHeld.2.2.2.2.1, cell_keep' hb hHeld.2.2.2.2.2.1, cell_keep' hb hHeld.2.2.2.2.2.2.1, cell_keep' hb hHeld.2.2.2.2.2.2.2.1, Lib.hid (below_next hHeld.2.2.2.2.2.2.2.2.out hb)⟩
             clear hK K
             try simp only [Act.put, List.setIfInBounds_toArray, List.set_cons_zero, List.set_cons_succ]
             clear hb
             refine rT 43 (some 112) ?_ (hS := by assumption)
             try simp only [Act.put, List.setIfInBounds_toArray, List.set_cons_zero, List.set_cons_succ]
             refine rT 44 (some 113) ?_ (hS := by assumption)
             try simp only [Act.put, List.setIfInBounds_toArray, List.set_cons_zero, List.set_cons_succ]
             refine wpAnyH_done (by kernel_rfl) ?_ _
             have HZ := Lib.hid hHeld.2.2.2.2.2.2.2.2.out
             clear hHeld
             go_wp2_with fail
             go_roundg (MN - (i + 1))
             case measure => omega
             case rel => exact ⟨i + 1, by go_num, by omega, rfl, take_grow HMT.out HMX.out (by rw [HMY.out, HMEQ.out]), Lib.hid (below_next HBQ.out HZ.out)⟩
           ·have HNE : Hid ((⟨nm, ac, fs, ms⟩ : Tr.C) ≠ ⟨nm, ac, fs', ms'⟩) := fun h => by
             injection h with _ _ _ h4
             refine ms_no HMX.out HMY.out (fun h5 => ?_) h4
             injection h5 with _ h6 _
             exact hpp h6
            rw [decide_eq_false hpp] at KP
            clear hnn hpp KS
            go_upto_region 12 with fail
            refine wp_region_held_drew (S := fun W => W.cell? ⟨B6, 3, none⟩ = some (.slice (some ⟨mb1, mo1, none⟩) MN mc1) ∧ W.cell? ⟨B7, 3, none⟩ = some (.slice (some ⟨mb2, mo2, none⟩) MN mc2) ∧ W.cell? ⟨mb1, mo1 + i * 3, none⟩ = some (.string mn1) ∧ W.cell? ⟨mb1, mo1 + i * 3 + 1, none⟩ = some (.slice q1 QN1 qc1) ∧ W.cell? ⟨mb1, mo1 + i * 3 + 2, none⟩ = some (.slice r1 RN1 rc1) ∧ W.cell? ⟨mb2, mo2 + i * 3, none⟩ = some (.string mn2) ∧ W.cell? ⟨mb2, mo2 + i * 3 + 1, none⟩ = some (.slice q2 QN2 qc2) ∧ W.cell? ⟨mb2, mo2 + i * 3 + 2, none⟩ = some (.slice r2 RN2 rc2) ∧ Hid (Below wm.heap.size wm W)) (by kernel_rfl) ?_ (fun hHeld => ?_)
            ·exact ⟨u3, v3, a0, a1, a2, b0, b1, b2, Lib.hid (Below.refl _ _).drew⟩
            clear u3 v3 a0 a1 a2 b0 b1 b2
            refine rT 0 (some 69) ?_ (hS := by assumption)
            try simp only [Act.put, List.setIfInBounds_toArray, List.set_cons_zero, List.set_cons_succ]
            refine rT 1 (some 70) ?_ (hS := by assumption)
            try simp only [Act.put, List.setIfInBounds_toArray, List.set_cons_zero, List.set_cons_succ]
            refine rT 2 (some 71) ?_ (hS := by assumption)
            try simp only [Act.put, List.setIfInBounds_toArray, List.set_cons_zero, List.set_cons_succ]
            refine rT 3 (some 72) ?_ (hS := by assumption)
            try simp only [Act.put, List.setIfInBounds_toArray, List.set_cons_zero, List.set_cons_succ]
            refine rT 4 (some 73) ?_ (hS := by assumption)
            try simp only [Act.put, List.setIfInBounds_toArray, List.set_cons_zero, List.set_cons_succ]
            refine rT 5 (some 74) ?_ (hS := by assumption)
            try simp only [Act.put, List.setIfInBounds_toArray, List.set_cons_zero, List.set_cons_succ]
            refine rT 6 (some 75) ?_ (hS := by assumption)
            try simp only [Act.put, List.setIfInBounds_toArray, List.set_cons_zero, List.set_cons_succ]
            refine rT 7 (some 76) ?_ (hS := by assumption)
            try simp only [Act.put, List.setIfInBounds_toArray, List.set_cons_zero, List.set_cons_succ]
            refine rT 8 (some 77) ?_ (hS := by assumption)
            try simp only [Act.put, List.setIfInBounds_toArray, List.set_cons_zero, List.set_cons_succ]
            refine rT 9 (some 78) ?_ (hS := by assumption)
            try simp only [Act.put, List.setIfInBounds_toArray, List.set_cons_zero, List.set_cons_succ]
            refine rT 10 (some 79) ?_ (hS := by assumption)
            try simp only [Act.put, List.setIfInBounds_toArray, List.set_cons_zero, List.set_cons_succ]
            refine rT 11 (some 80) ?_ (hS := by assumption)
            try simp only [Act.put, List.setIfInBounds_toArray, List.set_cons_zero, List.set_cons_succ]
            refine rT 12 (some 81) ?_ (hS := by assumption)
            try simp only [Act.put, List.setIfInBounds_toArray, List.set_cons_zero, List.set_cons_succ]
            refine rT 13 (some 82) ?_ (hS := by assumption)
            try simp only [Act.put, List.setIfInBounds_toArray, List.set_cons_zero, List.set_cons_succ]
            refine rT 14 (some 83) ?_ (hS := by assumption)
            try simp only [Act.put, List.setIfInBounds_toArray, List.set_cons_zero, List.set_cons_succ]
            refine rT 15 (some 84) ?_ (hS := by assumption)
            try simp only [Act.put, List.setIfInBounds_toArray, List.set_cons_zero, List.set_cons_succ]
            refine rT 16 (some 85) ?_ (hS := by assumption)
            try simp only [Act.put, List.setIfInBounds_toArray, List.set_cons_zero, List.set_cons_succ]
            refine rT 17 (some 86) ?_ (hS := by assumption)
            try simp only [Act.put, List.setIfInBounds_toArray, List.set_cons_zero, List.set_cons_succ]
            refine rT 18 (some 87) ?_ (hS := by assumption)
            try simp only [Act.put, List.setIfInBounds_toArray, List.set_cons_zero, List.set_cons_succ]
            refine rT 19 (some 88) ?_ (hS := by assumption)
            try simp only [Act.put, List.setIfInBounds_toArray, List.set_cons_zero, List.set_cons_succ]
            refine rT 20 (some 89) ?_ (hS := by assumption)
            try simp only [Act.put, List.setIfInBounds_toArray, List.set_cons_zero, List.set_cons_succ]
            refine rT 21 (some 90) ?_ (hS := by assumption)
            try simp only [Act.put, List.setIfInBounds_toArray, List.set_cons_zero, List.set_cons_succ]
            refine rT 22 (some 91) ?_ (hS := by assumption)
            try simp only [Act.put, List.setIfInBounds_toArray, List.set_cons_zero, List.set_cons_succ]
            refine rT 23 (some 92) ?_ (hS := by assumption)
            try simp only [Act.put, List.setIfInBounds_toArray, List.set_cons_zero, List.set_cons_succ]
            refine rT 24 (some 93) ?_ (hS := by assumption)
            try simp only [Act.put, List.setIfInBounds_toArray, List.set_cons_zero, List.set_cons_succ]
            refine rT 25 (some 94) ?_ (hS := by assumption)
            try simp only [Act.put, List.setIfInBounds_toArray, List.set_cons_zero, List.set_cons_succ]
            refine rR1 26 (some 95) (fun K hK => ?_)
            go_simp
            with_reducible refine (KP.out _ (HWM.out _ hHeld.2.2.2.2.2.2.2.2.out)).mono ?_
            rintro e w' ⟨rfl, hb⟩
            go_wp2_with fail
            refine hK.out _ _ ?_ (fun hHeld => ?_)
            ·exact ⟨cell_keep' hb hHeld.1, cell_keep' hb hHeld.2.1, cell_keep' hb hHeld.2.2.1, cell_keep' hb hHeld.2.2.2.1, cell_keep' hb hHeld.2.2.2.2.1, cell_keep' hb hHeld.2.2.2.2.2.1, cell_keep' hb hHeld.2.2.2.2.2.2.1, cell_keep' hb hHeld.2.2.2.2.2.2.2.1, Lib.hid (below_next hHeld.2.2.2.2.2.2.2.2.out hb)⟩
            clear hK K
            try simp only [Act.put, List.setIfInBounds_toArray, List.set_cons_zero, List.set_cons_succ]
            clear hb
            refine rT 27 (some 96) ?_ (hS := by assumption)
            try simp only [Act.put, List.setIfInBounds_toArray, List.set_cons_zero, List.set_cons_succ]
            refine rT 28 (some 97) ?_ (hS := by assumption)
            try simp only [Act.put, List.setIfInBounds_toArray, List.set_cons_zero, List.set_cons_succ]
            refine rT 29 (some 98) ?_ (hS := by assumption)
            try simp only [Act.put, List.setIfInBounds_toArray, List.set_cons_zero, List.set_cons_succ]
            refine rK 30 (some 99) ?_ (hS := by assumption)
            try simp only [Act.put, List.setIfInBounds_toArray, List.set_cons_zero, List.set_cons_succ]
            refine rK 31 (some 100) ?_ (hS := by assumption)
            try simp only [Act.put, List.setIfInBounds_toArray, List.set_cons_zero, List.set_cons_succ]
            refine rK 32 (some 101) ?_ (hS := by assumption)
            try simp only [Act.put, List.setIfInBounds_toArray, List.set_cons_zero, List.set_cons_succ]
            refine rK 33 (some 102) ?_ (hS := by assumption)
            try simp only [Act.put, List.setIfInBounds_toArray, List.set_cons_zero, List.set_cons_succ]
            refine rK 34 (some 103) ?_ (hS := by assumption)
            try simp only [Act.put, List.setIfInBounds_toArray, List.set_cons_zero, List.set_cons_succ]
            refine rK 35 (some 104) ?_ (hS := by assumption)
            try simp only [Act.put, List.setIfInBounds_toArray, List.set_cons_zero, List.set_cons_succ]
            refine rK 36 (some 105) ?_ (hS := by assumption)
            try simp only [Act.put, List.setIfInBounds_toArray, List.set_cons_zero, List.set_cons_succ]
            refine rK 37 (some 106) ?_ (hS := by assumption)
            try simp only [Act.put, List.setIfInBounds_toArray, List.set_cons_zero, List.set_cons_succ]
            refine rK 38 (some 107) ?_ (hS := by assumption)
            try simp only [Act.put, List.setIfInBounds_toArray, List.set_cons_zero, List.set_cons_succ]
            refine rK 39 (some 108) ?_ (hS := by assumption)
            try simp only [Act.put, List.setIfInBounds_toArray, List.set_cons_zero, List.set_cons_succ]
            refine rK 40 (some 109) ?_ (hS := by assumption)
            try simp only [Act.put, List.setIfInBounds_toArray, List.set_cons_zero, List.set_cons_succ]
            refine rK 41 (some 110) ?_ (hS := by assumption)
            try simp only [Act.put, List.setIfInBounds_toArray, List.set_cons_zero, List.set_cons_succ]
            refine rK 42 (some 111) ?_ (hS := by assumption)
            try simp only [Act.put, List.setIfInBounds_toArray, List.set_cons_zero, List.set_cons_succ]
            refine rK 43 (some 112) ?_ (hS := by assumption)
            try simp only [Act.put, List.setIfInBounds_toArray, List.set_cons_zero, List.set_cons_succ]
            refine rT 44 (some 113) ?_ (hS := by assumption)
            try simp only [Act.put, List.setIfInBounds_toArray, List.set_cons_zero, List.set_cons_succ]
            refine wpAnyH_done (by kernel_rfl) ?_ _
            have HZ := Lib.hid hHeld.2.2.2.2.2.2.2.2.out
            clear hHeld
            go_wp2_with fail
            go_ret
            refine ⟨?_, HB2.out.trans ((HW2.out _ HZ.out).mono HB2.out.size)⟩
            rw [sameCs_no HX.out HY.out HNE.out]
            rfl
          ·have HNE : Hid ((⟨nm, ac, fs, ms⟩ : Tr.C) ≠ ⟨nm, ac, fs', ms'⟩) := fun h => by
            injection h with _ _ _ h4
            refine ms_no HMX.out HMY.out (fun h5 => ?_) h4
            injection h5 with h6 _ _
            exact hnn h6
           have n5 : (!(mn1.toList == mn2.toList)) = true := by simp [list_ne hnn]
           clear hnn KP KS
           go_upto_region 12 with fail
           refine wp_region_held_drew (S := fun W => W.cell? ⟨B6, 3, none⟩ = some (.slice (some ⟨mb1, mo1, none⟩) MN mc1) ∧ W.cell? ⟨B7, 3, none⟩ = some (.slice (some ⟨mb2, mo2, none⟩) MN mc2) ∧ W.cell? ⟨mb1, mo1 + i * 3, none⟩ = some (.string mn1) ∧ W.cell? ⟨mb1, mo1 + i * 3 + 1, none⟩ = some (.slice q1 QN1 qc1) ∧ W.cell? ⟨mb1, mo1 + i * 3 + 2, none⟩ = some (.slice r1 RN1 rc1) ∧ W.cell? ⟨mb2, mo2 + i * 3, none⟩ = some (.string mn2) ∧ W.cell? ⟨mb2, mo2 + i * 3 + 1, none⟩ = some (.slice q2 QN2 qc2) ∧ W.cell? ⟨mb2, mo2 + i * 3 + 2, none⟩ = some (.slice r2 RN2 rc2) ∧ Hid (Below wm.heap.size wm W)) (by kernel_rfl) ?_ (fun hHeld => ?_)
           ·exact ⟨u3, v3, a0, a1, a2, b0, b1, b2, Lib.hid (Below.refl _ _).drew⟩
           clear u3 v3 a0 a1 a2 b0 b1 b2
           refine rT 0 (some 69) ?_ (hS := by assumption)
           try simp only [Act.put, List.setIfInBounds_toArray, List.set_cons_zero, List.set_cons_succ]
           refine rT 1 (some 70) ?_ (hS := by assumption)
           try simp only [Act.put, List.setIfInBounds_toArray, List.set_cons_zero, List.set_cons_succ]
           refine rT 2 (some 71) ?_ (hS := by assumption)
           try simp only [Act.put, List.setIfInBounds_toArray, List.set_cons_zero, List.set_cons_succ]
           refine rT 3 (some 72) ?_ (hS := by assumption)
           try simp only [Act.put, List.setIfInBounds_toArray, List.set_cons_zero, List.set_cons_succ]
           refine rT 4 (some 73) ?_ (hS := by assumption)
           try simp only [Act.put, List.setIfInBounds_toArray, List.set_cons_zero, List.set_cons_succ]
           refine rT 5 (some 74) ?_ (hS := by assumption)
           try simp only [Act.put, List.setIfInBounds_toArray, List.set_cons_zero, List.set_cons_succ]
           refine rT 6 (some 75) ?_ (hS := by assumption)
           try simp only [Act.put, List.setIfInBounds_toArray, List.set_cons_zero, List.set_cons_succ]
           refine rT 7 (some 76) ?_ (hS := by assumption)
           try simp only [Act.put, List.setIfInBounds_toArray, List.set_cons_zero, List.set_cons_succ]
           refine rT 8 (some 77) ?_ (hS := by assumption)
           try simp only [Act.put, List.setIfInBounds_toArray, List.set_cons_zero, List.set_cons_succ]
           refine rT 9 (some 78) ?_ (hS := by assumption)
           try simp only [Act.put, List.setIfInBounds_toArray, List.set_cons_zero, List.set_cons_succ]
           refine rT 10 (some 79) ?_ (hS := by assumption)
           try simp only [Act.put, List.setIfInBounds_toArray, List.set_cons_zero, List.set_cons_succ]
           refine rT 11 (some 80) ?_ (hS := by assumption)
           try simp only [Act.put, List.setIfInBounds_toArray, List.set_cons_zero, List.set_cons_succ]
           refine rT 12 (some 81) ?_ (hS := by assumption)
           try simp only [Act.put, List.setIfInBounds_toArray, List.set_cons_zero, List.set_cons_succ]
           refine rT 13 (some 82) ?_ (hS := by assumption)
           try simp only [Act.put, List.setIfInBounds_toArray, List.set_cons_zero, List.set_cons_succ]
           refine rK 14 (some 83) ?_ (hS := by assumption)
           try simp only [Act.put, List.setIfInBounds_toArray, List.set_cons_zero, List.set_cons_succ]
           refine rK 15 (some 84) ?_ (hS := by assumption)
           try simp only [Act.put, List.setIfInBounds_toArray, List.set_cons_zero, List.set_cons_succ]
           refine rK 16 (some 85) ?_ (hS := by assumption)
           try simp only [Act.put, List.setIfInBounds_toArray, List.set_cons_zero, List.set_cons_succ]
           refine rK 17 (some 86) ?_ (hS := by assumption)
           try simp only [Act.put, List.setIfInBounds_toArray, List.set_cons_zero, List.set_cons_succ]
           refine rK 18 (some 87) ?_ (hS := by assumption)
           try simp only [Act.put, List.setIfInBounds_toArray, List.set_cons_zero, List.set_cons_succ]
           refine rK 19 (some 88) ?_ (hS := by assumption)
           try simp only [Act.put, List.setIfInBounds_toArray, List.set_cons_zero, List.set_cons_succ]
           refine rK 20 (some 89) ?_ (hS := by assumption)
           try simp only [Act.put, List.setIfInBounds_toArray, List.set_cons_zero, List.set_cons_succ]
           refine rK 21 (some 90) ?_ (hS := by assumption)
           try simp only [Act.put, List.setIfInBounds_toArray, List.set_cons_zero, List.set_cons_succ]
           refine rK 22 (some 91) ?_ (hS := by assumption)
           try simp only [Act.put, List.setIfInBounds_toArray, List.set_cons_zero, List.set_cons_succ]
           refine rK 23 (some 92) ?_ (hS := by assumption)
           try simp only [Act.put, List.setIfInBounds_toArray, List.set_cons_zero, List.set_cons_succ]
           refine rK 24 (some 93) ?_ (hS := by assumption)
           try simp only [Act.put, List.setIfInBounds_toArray, List.set_cons_zero, List.set_cons_succ]
           refine rK 25 (some 94) ?_ (hS := by assumption)
           try simp only [Act.put, List.setIfInBounds_toArray, List.set_cons_zero, List.set_cons_succ]
           refine rK 26 (some 95) ?_ (hS := by assumption)
           try simp only [Act.put, List.setIfInBounds_toArray, List.set_cons_zero, List.set_cons_succ]
           refine rK 27 (some 96) ?_ (hS := by assumption)
           try simp only [Act.put, List.setIfInBounds_toArray, List.set_cons_zero, List.set_cons_succ]
           refine rT 28 (some 97) ?_ (hS := by assumption)
           try simp only [Act.put, List.setIfInBounds_toArray, List.set_cons_zero, List.set_cons_succ]
           refine rT 29 (some 98) ?_ (hS := by assumption)
           try simp only [Act.put, List.setIfInBounds_toArray, List.set_cons_zero, List.set_cons_succ]
           refine rK 30 (some 99) ?_ (hS := by assumption)
           try simp only [Act.put, List.setIfInBounds_toArray, List.set_cons_zero, List.set_cons_succ]
           refine rK 31 (some 100) ?_ (hS := by assumption)
           try simp only [Act.put, List.setIfInBounds_toArray, List.set_cons_zero, List.set_cons_succ]
           refine rK 32 (some 101) ?_ (hS := by assumption)
           try simp only [Act.put, List.setIfInBounds_toArray, List.set_cons_zero, List.set_cons_succ]
           refine rK 33 (some 102) ?_ (hS := by assumption)
           try simp only [Act.put, List.setIfInBounds_toArray, List.set_cons_zero, List.set_cons_succ]
           refine rK 34 (some 103) ?_ (hS := by assumption)
           try simp only [Act.put, List.setIfInBounds_toArray, List.set_cons_zero, List.set_cons_succ]
           refine rK 35 (some 104) ?_ (hS := by assumption)
           try simp only [Act.put, List.setIfInBounds_toArray, List.set_cons_zero, List.set_cons_succ]
           refine rK 36 (some 105) ?_ (hS := by assumption)
           try simp only [Act.put, List.setIfInBounds_toArray, List.set_cons_zero, List.set_cons_succ]
           refine rK 37 (some 106) ?_ (hS := by assumption)
           try simp only [Act.put, List.setIfInBounds_toArray, List.set_cons_zero, List.set_cons_succ]
           refine rK 38 (some 107) ?_ (hS := by assumption)
           try simp only [Act.put, List.setIfInBounds_toArray, List.set_cons_zero, List.set_cons_succ]
           refine rK 39 (some 108) ?_ (hS := by assumption)
           try simp only [Act.put, List.setIfInBounds_toArray, List.set_cons_zero, List.set_cons_succ]
           refine rK 40 (some 109) ?_ (hS := by assumption)
           try simp only [Act.put, List.setIfInBounds_toArray, List.set_cons_zero, List.set_cons_succ]
           refine rK 41 (some 110) ?_ (hS := by assumption)
           try simp only [Act.put, List.setIfInBounds_toArray, List.set_cons_zero, List.set_cons_succ]
           refine rK 42 (some 111) ?_ (hS := by assumption)
           try simp only [Act.put, List.setIfInBounds_toArray, List.set_cons_zero, List.set_cons_succ]
           refine rK 43 (some 112) ?_ (hS := by assumption)
           try simp only [Act.put, List.setIfInBounds_toArray, List.set_cons_zero, List.set_cons_succ]
           refine rT 44 (some 113) ?_ (hS := by assumption)
           try simp only [Act.put, List.setIfInBounds_toArray, List.set_cons_zero, List.set_cons_succ]
           refine wpAnyH_done (by kernel_rfl) ?_ _
           have HZ := Lib.hid hHeld.2.2.2.2.2.2.2.2.out
           clear hHeld
           go_wp2_with fail
           go_ret
           refine ⟨?_, HB2.out.trans ((HW2.out _ HZ.out).mono HB2.out.size)⟩
           rw [sameCs_no HX.out HY.out HNE.out]
           rfl
         ·obtain rfl : i = MN := by omega
          have hms : ms = ms' := by
           have h := HMT.out
           rw [List.take_of_length_le (by rw [HMN1.out]; exact Nat.le_refl _), List.take_of_length_le (by rw [HMN2.out]; exact Nat.le_refl _)] at h
           exact h
          have HCEQ : Hid ((⟨nm, ac, fs, ms⟩ : Tr.C) = ⟨nm, ac, fs', ms'⟩) := by show _ = _; rw [HEQ3.out, hms]
          clear hms
          go_wp2_with fail
          go_roundg (N1 - (j + 1))
          case measure => omega
          case rel => exact ⟨j + 1, by go_num, by omega, rfl, take_grow HT.out HX.out (by rw [HY.out, HCEQ.out]), Lib.hid (HW2.out _ (Below.refl _ _))⟩
       ·have HNE : Hid ((⟨nm, ac, fs, ms⟩ : Tr.C) ≠ ⟨nm, ac, fs', ms'⟩) := fun h => by
         injection h with _ _ _ h4
         exact hmm (by rw [← HMN1.out, ← HMN2.out, h4])
        have n4 : ¬ (MN1 : Int) = (MN2 : Int) := by omega
        clear hfs KF hmm
        go_wp2_with fail
        refine KF1.out.mono ?_
        rintro e' w5 ⟨rfl, hb5⟩
        clear z0 z1 z2 z3 t0 t1 t2 t3 hz ht
        obtain ⟨⟨z0, z1, z2, z3⟩, ⟨t0, t1, t2, t3⟩⟩ := HV.out w5 hb5
        have HB5 := Lib.hid hb5
        have hz := cell_lt' z0
        have ht := cell_lt' t0
        clear hb5
        go_wp2_with fail
        go_ret
        refine ⟨?_, HB2.out.trans ((below_next HB4.out HB5.out).mono HB2.out.size)⟩
        rw [sameCs_no HX.out HY.out HNE.out]
        rfl
      ·have HNE : Hid ((⟨nm, ac, fs, ms⟩ : Tr.C) ≠ ⟨nm, ac, fs', ms'⟩) := fun h => by
        injection h with _ _ h4 _
        exact hfs h4
       rw [decide_eq_false hfs] at KF1
       clear hfs KF
       go_wp2_with fail
       refine KF1.out.mono ?_
       rintro e' w5 ⟨rfl, hb5⟩
       have HB5 := Lib.hid hb5
       clear hb5 z0 z1 z2 z3 t0 t1 t2 t3 hz ht
       go_wp2_with fail
       go_ret
       refine ⟨?_, HB2.out.trans ((below_next HB4.out HB5.out).mono HB2.out.size)⟩
       rw [sameCs_no HX.out HY.out HNE.out]
       rfl
     ·have HNE : Hid ((⟨nm, ac, fs, ms⟩ : Tr.C) ≠ ⟨nm, ac', fs', ms'⟩) := fun h => by
       injection h with _ h4 _ _
       exact hac h4
      clear KF
      cases ac <;> cases ac'
      ·exact absurd rfl hac
      ·clear hac
       go_wp2_with fail
       go_ret
       refine ⟨?_, HB2.out.trans ((HB4.out).mono HB2.out.size)⟩
       rw [sameCs_no HX.out HY.out HNE.out]
       rfl
      ·clear hac
       go_wp2_with fail
       go_ret
       refine ⟨?_, HB2.out.trans ((HB4.out).mono HB2.out.size)⟩
       rw [sameCs_no HX.out HY.out HNE.out]
       rfl
      ·exact absurd rfl hac
    ·have HNE : Hid ((⟨nm, ac, fs, ms⟩ : Tr.C) ≠ ⟨nm', ac', fs', ms'⟩) := fun h => by
      injection h with h4 _ _ _
      exact hnm h4
     have n1 : (nm.toList == nm'.toList) = false := beq_eq_false_iff_ne.2 (list_ne hnm)
     clear hnm KF
     go_wp2_with fail
     go_ret
     refine ⟨?_, HB2.out.trans ((HB4.out).mono HB2.out.size)⟩
     rw [sameCs_no HX.out HY.out HNE.out]
     rfl
   ·obtain rfl : j = N1 := by omega
    have HEQ : Hid (l1 = l2) := by
     have h := HT.out
     rw [List.take_of_length_le (by rw [HN1.out]; exact Nat.le_refl _), List.take_of_length_le (by rw [HN2.out]; exact Nat.le_refl _)] at h
     exact h
    go_wp2_with fail
    go_ret
    refine ⟨?_, HB2.out.trans (HB.out.mono HB2.out.size)⟩
    rw [(Sy.sameCs_iff l1 l2).2 HEQ.out]
    rfl
 ·have hf : Sy.sameCs l1 l2 = false := by
   rw [Bool.eq_false_iff]
   intro h
   rw [Sy.sameCs_iff] at h
   exact hne (by rw [← hN1, ← hN2, h])
  have hb1 := below_box w (.cells #[.slice p1 N1 c1] 25)
  have hb2 := hb1.alloc hb1.size (.cells #[.slice p2 N2 c2] 25)
  have HB := Lib.hid hb2
  rw [hf]
  have hne2 : ¬ (N1 : Int) = (N2 : Int) := by omega
  clear hf hb1 hb2 h1 h2 hN1 hN2 hne
  go_enter Tryz.func12, Tryz.ntmps12
  go_wp2_with fail
  go_ret
  exact ⟨rfl, HB.out⟩
end Go.Proofs.YtdckddkalgnlpaaGreatDoor
