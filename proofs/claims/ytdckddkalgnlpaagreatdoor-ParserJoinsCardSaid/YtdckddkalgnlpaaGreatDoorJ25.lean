/-
  Several texts in one: SyEqMM, SyEqC, SyEqCC.
-/
import Derived.Test.YtdckddkalgnlpaaGreatDoorJ24
namespace Go.Proofs.YtdckddkalgnlpaaGreatDoor
open Go.RowKit Go.Maps
set_option maxRecDepth 100000 in
set_option maxHeartbeats 4000000 in
theorem equalMethod_any : EqMC := by
  intro x y vx1 vy1 vx2 vy2 w hx1 hy1 hx2 hy2
  obtain ⟨nm, xs, bs⟩ := x
  obtain ⟨nm', xs', bs'⟩ := y
  have hx1 : SlStr w vx1 xs := hx1
  have hy1 : SlS w vy1 bs := hy1
  have hx2 : SlStr w vx2 xs' := hx2
  have hy2 : SlS w vy2 bs' := hy2
  obtain ⟨px1, kx1, rfl⟩ := hx1.form
  obtain ⟨Ax1, hAx1⟩ : ∃ q, xs.length = q := ⟨_, rfl⟩
  rw [hAx1] at hx1 ⊢
  obtain ⟨py1, ky1, rfl, _⟩ := hy1.form
  obtain ⟨Ay1, hAy1⟩ : ∃ q, bs.length = q := ⟨_, rfl⟩
  rw [hAy1] at hy1 ⊢
  obtain ⟨px2, kx2, rfl⟩ := hx2.form
  obtain ⟨Ax2, hAx2⟩ : ∃ q, xs'.length = q := ⟨_, rfl⟩
  rw [hAx2] at hx2 ⊢
  obtain ⟨py2, ky2, rfl, _⟩ := hy2.form
  obtain ⟨Ay2, hAy2⟩ : ∃ q, bs'.length = q := ⟨_, rfl⟩
  rw [hAy2] at hy2 ⊢
  have hb1 := below_box w (.cells #[.string nm, .slice px1 Ax1 kx1, .slice py1 Ay1 ky1] 64)
  have hb2 := hb1.alloc hb1.size (.cells #[.string nm', .slice px2 Ax2 kx2, .slice py2 Ay2 ky2] 64)
  obtain ⟨w2, hw2⟩ : ∃ q, q = (w.alloc (.cells #[.string nm, .slice px1 Ax1 kx1, .slice py1 Ay1 ky1] 64)).alloc (.cells #[.string nm', .slice px2 Ax2 kx2, .slice py2 Ay2 ky2] 64) := ⟨_, rfl⟩
  have HB2 : Hid (Below w.heap.size w w2) := by rw [hw2]; exact hb2
  have hc1 := (MapKept.heap_alloc w (.cells #[.string nm, .slice px1 Ax1 kx1, .slice py1 Ay1 ky1] 64)).1
  have hc2 := (MapKept.heap_alloc (w.alloc (.cells #[.string nm, .slice px1 Ax1 kx1, .slice py1 Ay1 ky1] 64)) (.cells #[.string nm', .slice px2 Ax2 kx2, .slice py2 Ay2 ky2] 64)).1
  have hbk := below_box (w.alloc (.cells #[.string nm, .slice px1 Ax1 kx1, .slice py1 Ay1 ky1] 64)) (.cells #[.string nm', .slice px2 Ax2 kx2, .slice py2 Ay2 ky2] 64)
  have hc1' := (hbk.block _ (Array.getElem?_eq_some_iff.1 hc1).1).trans hc1
  obtain ⟨B2, hB2⟩ : ∃ q, (w.alloc (.cells #[.string nm, .slice px1 Ax1 kx1, .slice py1 Ay1 ky1] 64)).heap.size = q := ⟨_, rfl⟩
  have hB2' : B2 = w.heap.size + 1 := by rw [← hB2]; exact World.size_alloc _ _
  rw [hB2, hB2', ← hw2] at hc2
  rw [← hw2] at hc1'
  have HC1 := Lib.hid hc1'
  have HC2 := Lib.hid hc2
  have KX := Lib.hid (strEq_any xs xs' px1 Ax1 kx1 px2 Ax2 kx2 w2 hAx1 hAx2 (hx1.keep HB2.out) (hx2.keep HB2.out))
  have KY : Hid (∀ W, Below w.heap.size w W → Calls Tryz.prog 137 #[.slice py1 Ay1 ky1, .slice py2 Ay2 ky2, .func (.func 138) #[] #[]] W fun r w' => r = .returned (.bool (Sy.sameSs bs bs')) ∧ Below W.heap.size W w') := fun W hb => eqFuncS_of (equalStmt_any _) bs bs' py1 Ay1 ky1 py2 Ay2 ky2 W (Nat.le_refl _) hAy1 hAy2 (hy1.keep hb) (hy2.keep hb)
  have HW2 := Lib.hid hw2
  unfold methV
  have hsame : Sy.sameM (.mk nm xs bs) (.mk nm' xs' bs') = (decide (nm = nm') && decide (xs = xs') && Sy.sameSs bs bs') := rfl
  rw [hsame]
  obtain ⟨qx, hqx⟩ : ∃ q, decide (xs = xs') = q := ⟨_, rfl⟩
  obtain ⟨qy, hqy⟩ : ∃ q, Sy.sameSs bs bs' = q := ⟨_, rfl⟩
  rw [hqx] at KX ⊢
  rw [hqy] at KY ⊢
  clear hx1 hy1 hx2 hy2 hAx1 hAy1 hAx2 hAy2 hb1 hb2 hw2 hc1 hc2 hbk hc1' hB2 hB2' hsame hqx hqy
  by_cases hn : nm = nm'
  · subst hn
    have HC12 := HC1
    have HC22 := HC2
    go_enter Tryz.func86, Tryz.ntmps86
    go_wp2_with fail
    rw [← HW2.out]
    refine KX.out.mono ?_
    rintro e' w3 ⟨rfl, hb⟩
    have HB3 := Lib.hid (HB2.out.trans (hb.mono HB2.out.size))
    have HC13 := Lib.hid ((hb.block _ (Array.getElem?_eq_some_iff.1 HC12.out).1).trans HC12.out)
    have HC23 := Lib.hid ((hb.block _ (Array.getElem?_eq_some_iff.1 HC22.out).1).trans HC22.out)
    clear hb
    clear HW2
    cases qx
    · go_wp2_with fail
      go_ret
      exact ⟨by simp, HB3.out⟩
    · have u1 := cell_of_blkP HC13.out (j := 2) (u := .slice py1 Ay1 ky1) rfl
      have u2 := cell_of_blkP HC23.out (j := 2) (u := .slice py2 Ay2 ky2) rfl
      go_wp2_with fail
      refine (KY.out _ HB3.out).mono ?_
      rintro e' w4 ⟨rfl, hb⟩
      have HB4 := Lib.hid (HB3.out.trans (hb.mono HB3.out.size))
      clear hb
      clear u1 u2
      go_wp2_with fail
      go_ret
      exact ⟨by simp, HB4.out⟩
  · have hn2 := list_ne hn
    go_enter Tryz.func86, Tryz.ntmps86
    go_wp2_with fail
    rw [← HW2.out]
    go_ret
    exact ⟨by simp, HB2.out⟩
end Go.Proofs.YtdckddkalgnlpaaGreatDoor
namespace Go.Proofs.YtdckddkalgnlpaaGreatDoor
open Go.RowKit Go.Maps
def EqCC : Prop := ∀ (x y : Tr.C) (x1 y1 x2 y2 : Value) (W : World), SlStr W x1 x.fields → SlM W y1 x.methods → SlStr W x2 y.fields → SlM W y2 y.methods →
  Calls Tryz.prog 41 #[classV x x1 y1, classV y x2 y2] W fun r w' => r = .returned (.bool (Sy.sameC x y)) ∧ Below W.heap.size W w'
set_option maxRecDepth 100000 in
set_option maxHeartbeats 4000000 in
theorem eqFuncC_of (hC : EqCC) (l1 l2 : List Tr.C) (p1 : Option Addr) (N1 c1 : Nat) (p2 : Option Addr) (N2 c2 : Nat) (w : World) (hN1 : l1.length = N1) (hN2 : l2.length = N2) (h1 : SlC w (.slice p1 N1 c1) l1) (h2 : SlC w (.slice p2 N2 c2) l2) :
    Calls Tryz.prog 40 #[.slice p1 N1 c1, .slice p2 N2 c2, .func (.func 41) #[] #[]] w fun r w' => r = .returned (.bool (Sy.sameCs l1 l2)) ∧ Below w.heap.size w w' := by
  have hn1 : N1 ≤ 9223372036854775807 := by
    have := h1.len
    rw [hN1] at this
    unfold maxLen at this
    exact this
  have hn2 : N2 ≤ 9223372036854775807 := by
    have := h2.len
    rw [hN2] at this
    unfold maxLen at this
    exact this
  have HC := Lib.hid hC
  have HN1 := Lib.hid hN1
  have HN2 := Lib.hid hN2
  have H1 := Lib.hid h1
  have H2 := Lib.hid h2
  clear hC hN1 hN2 h1 h2
  by_cases hne : N1 = N2
  · subst hne
    go_enter Tryz.func40, Tryz.ntmps40
    go_wp2_with fail
    go_loopg [7, 8, 9, 17] N1 (fun g s7 s8 s9 s17 wr => ∃ j : Nat, s17 = .int .i64 j ∧ j ≤ N1 ∧ g = N1 - j ∧ Hid (l1.take j = l2.take j) ∧ Hid (Below w.heap.size w wr))
    case atStart => exact ⟨0, rfl, Nat.zero_le _, rfl, rfl, Below.refl _ _⟩
    case round =>
      obtain ⟨j, rfl, hj, rfl, HT, HB⟩ := hrel
      by_cases hlt : j < N1
      · obtain ⟨x, hx⟩ : ∃ x, l1[j]? = some x := ⟨_, List.getElem?_eq_getElem (by rw [HN1.out]; exact hlt)⟩
        obtain ⟨y, hy⟩ : ∃ x, l2[j]? = some x := ⟨_, List.getElem?_eq_getElem (by rw [HN2.out]; exact hlt)⟩
        obtain ⟨b1, o1, vx1, vy1, rfl, _, hc1, _, hx1, hy1⟩ := H1.out.get hx
        obtain ⟨px1, kx1, hfx1⟩ : ∃ p c, vx1 = .slice p x.fields.length c := by
          obtain ⟨p, c, e⟩ := hx1.form
          exact ⟨p, c, e⟩
        subst hfx1
        obtain ⟨Ax1, hAx1⟩ : ∃ q, x.fields.length = q := ⟨_, rfl⟩
        rw [hAx1] at hx1 hc1
        clear hAx1
        obtain ⟨py1, ky1, hfy1⟩ : ∃ p c, vy1 = .slice p x.methods.length c := by
          obtain ⟨p, c, e⟩ := hy1.form
          exact ⟨p, c, e⟩
        subst hfy1
        obtain ⟨Ay1, hAy1⟩ : ∃ q, x.methods.length = q := ⟨_, rfl⟩
        rw [hAy1] at hy1 hc1
        clear hAy1
        obtain ⟨b2, o2, vx2, vy2, rfl, _, hc2, _, hx2, hy2⟩ := H2.out.get hy
        obtain ⟨px2, kx2, hfx2⟩ : ∃ p c, vx2 = .slice p y.fields.length c := by
          obtain ⟨p, c, e⟩ := hx2.form
          exact ⟨p, c, e⟩
        subst hfx2
        obtain ⟨Ax2, hAx2⟩ : ∃ q, y.fields.length = q := ⟨_, rfl⟩
        rw [hAx2] at hx2 hc2
        clear hAx2
        obtain ⟨py2, ky2, hfy2⟩ : ∃ p c, vy2 = .slice p y.methods.length c := by
          obtain ⟨p, c, e⟩ := hy2.form
          exact ⟨p, c, e⟩
        subst hfy2
        obtain ⟨Ay2, hAy2⟩ : ∃ q, y.methods.length = q := ⟨_, rfl⟩
        rw [hAy2] at hy2 hc2
        clear hAy2
        obtain ⟨x0, x1, x2, x3⟩ := hc1
        have x0 := cell_keep' HB.out x0
        have x1 := cell_keep' HB.out x1
        have x2 := cell_keep' HB.out x2
        have x3 := cell_keep' HB.out x3
        obtain ⟨y0, y1, y2, y3⟩ := hc2
        have y0 := cell_keep' HB.out y0
        have y1 := cell_keep' HB.out y1
        have y2 := cell_keep' HB.out y2
        have y3 := cell_keep' HB.out y3
        have hb4 := HB.out.alloc HB.out.size (.cells #[.string x.name, .bool x.actor, .slice px1 Ax1 kx1, .slice py1 Ay1 ky1] 49)
        have hb5 := hb4.alloc hb4.size (.cells #[.string y.name, .bool y.actor, .slice px2 Ax2 kx2, .slice py2 Ay2 ky2] 49)
        obtain ⟨w5, hw5⟩ : ∃ q, q = (wr.alloc (.cells #[.string x.name, .bool x.actor, .slice px1 Ax1 kx1, .slice py1 Ay1 ky1] 49)).alloc (.cells #[.string y.name, .bool y.actor, .slice px2 Ax2 kx2, .slice py2 Ay2 ky2] 49) := ⟨_, rfl⟩
        rw [← hw5] at hb5
        have hcall := HC.out x y _ _ _ _ w5 (hx1.keep hb5) (hy1.keep hb5) (hx2.keep hb5) (hy2.keep hb5)
        unfold classV at hcall
        have HW5 := Lib.hid hw5
        have HB5 := Lib.hid hb5
        have HX := Lib.hid hx
        have HY := Lib.hid hy
        have b3 : (j : Int) < (N1 : Int) := by omega
        have hl1 := cell_lt' x0
        have hl2 := cell_lt' y0
        obtain ⟨S, hSx⟩ : ∃ q, Sy.sameC x y = q := ⟨_, rfl⟩
        rw [hSx] at hcall
        have HSX := Lib.hid hSx
        have HCALL := Lib.hid hcall
        clear hx hy hx1 hy1 hx2 hy2 hb4 hb5 hw5 hcall hSx
        cases S
        · go_wp2_with fail
          rw [← HW5.out]
          refine HCALL.out.mono ?_
          rintro e' w6 ⟨rfl, hb6⟩
          have HB6 := Lib.hid (HB5.out.trans (hb6.mono HB5.out.size))
          clear hb6 HW5 x0 x1 x2 x3 y0 y1 y2 y3 hl1 hl2
          go_wp2_with fail
          go_ret
          refine ⟨?_, HB6.out⟩
          rw [show Sy.sameCs l1 l2 = false by
            rw [Bool.eq_false_iff]
            intro h
            rw [Sy.sameCs_iff] at h
            have h3 := HX.out
            rw [h, HY.out] at h3
            have h4 := HSX.out
            rw [Option.some.inj h3, (Sy.sameC_iff x x).2 rfl] at h4
            cases h4]
          rfl
        · go_wp2_with fail
          rw [← HW5.out]
          refine HCALL.out.mono ?_
          rintro e' w6 ⟨rfl, hb6⟩
          have HB6 := Lib.hid (HB5.out.trans (hb6.mono HB5.out.size))
          clear hb6 HW5 x0 x1 x2 x3 y0 y1 y2 y3 hl1 hl2
          go_wp2_with fail
          go_roundg (N1 - (j + 1))
          case measure => omega
          case rel => exact ⟨j + 1, by go_num, by omega, rfl, take_grow HT.out HX.out (by rw [HY.out, (Sy.sameC_iff x y).1 HSX.out]), HB6⟩
      · obtain rfl : j = N1 := by omega
        go_wp2_with fail
        go_ret
        refine ⟨?_, HB.out⟩
        rw [(Sy.sameCs_iff l1 l2).2 (by have h := HT.out; rw [List.take_of_length_le (by rw [HN1.out]; exact Nat.le_refl _), List.take_of_length_le (by rw [HN2.out]; exact Nat.le_refl _)] at h; exact h)]
        rfl
  · have hf : Sy.sameCs l1 l2 = false := by
      rw [Bool.eq_false_iff]
      intro h
      rw [Sy.sameCs_iff] at h
      exact hne (by rw [← HN1.out, ← HN2.out, h])
    rw [hf]
    clear hf
    have hne2 : ¬ (N1 : Int) = (N2 : Int) := by omega
    go_enter Tryz.func40, Tryz.ntmps40
    go_wp2_with fail
    go_ret
    exact ⟨rfl, Below.refl _ _⟩
end Go.Proofs.YtdckddkalgnlpaaGreatDoor
namespace Go.Proofs.YtdckddkalgnlpaaGreatDoor
open Go.RowKit Go.Maps
set_option maxRecDepth 100000 in
set_option maxHeartbeats 4000000 in
theorem equalClass_any : EqCC := by
  intro x y vx1 vy1 vx2 vy2 w hx1 hy1 hx2 hy2
  obtain ⟨nm, a, xs, bs⟩ := x
  obtain ⟨nm', a', xs', bs'⟩ := y
  have hx1 : SlStr w vx1 xs := hx1
  have hy1 : SlM w vy1 bs := hy1
  have hx2 : SlStr w vx2 xs' := hx2
  have hy2 : SlM w vy2 bs' := hy2
  obtain ⟨px1, kx1, rfl⟩ := hx1.form
  obtain ⟨Ax1, hAx1⟩ : ∃ q, xs.length = q := ⟨_, rfl⟩
  rw [hAx1] at hx1 ⊢
  obtain ⟨py1, ky1, rfl⟩ := hy1.form
  obtain ⟨Ay1, hAy1⟩ : ∃ q, bs.length = q := ⟨_, rfl⟩
  rw [hAy1] at hy1 ⊢
  obtain ⟨px2, kx2, rfl⟩ := hx2.form
  obtain ⟨Ax2, hAx2⟩ : ∃ q, xs'.length = q := ⟨_, rfl⟩
  rw [hAx2] at hx2 ⊢
  obtain ⟨py2, ky2, rfl⟩ := hy2.form
  obtain ⟨Ay2, hAy2⟩ : ∃ q, bs'.length = q := ⟨_, rfl⟩
  rw [hAy2] at hy2 ⊢
  have hb1 := below_box w (.cells #[.string nm, .bool a, .slice px1 Ax1 kx1, .slice py1 Ay1 ky1] 49)
  have hb2 := hb1.alloc hb1.size (.cells #[.string nm', .bool a', .slice px2 Ax2 kx2, .slice py2 Ay2 ky2] 49)
  obtain ⟨w2, hw2⟩ : ∃ q, q = (w.alloc (.cells #[.string nm, .bool a, .slice px1 Ax1 kx1, .slice py1 Ay1 ky1] 49)).alloc (.cells #[.string nm', .bool a', .slice px2 Ax2 kx2, .slice py2 Ay2 ky2] 49) := ⟨_, rfl⟩
  have HB2 : Hid (Below w.heap.size w w2) := by rw [hw2]; exact hb2
  have hc1 := (MapKept.heap_alloc w (.cells #[.string nm, .bool a, .slice px1 Ax1 kx1, .slice py1 Ay1 ky1] 49)).1
  have hc2 := (MapKept.heap_alloc (w.alloc (.cells #[.string nm, .bool a, .slice px1 Ax1 kx1, .slice py1 Ay1 ky1] 49)) (.cells #[.string nm', .bool a', .slice px2 Ax2 kx2, .slice py2 Ay2 ky2] 49)).1
  have hbk := below_box (w.alloc (.cells #[.string nm, .bool a, .slice px1 Ax1 kx1, .slice py1 Ay1 ky1] 49)) (.cells #[.string nm', .bool a', .slice px2 Ax2 kx2, .slice py2 Ay2 ky2] 49)
  have hc1' := (hbk.block _ (Array.getElem?_eq_some_iff.1 hc1).1).trans hc1
  obtain ⟨B2, hB2⟩ : ∃ q, (w.alloc (.cells #[.string nm, .bool a, .slice px1 Ax1 kx1, .slice py1 Ay1 ky1] 49)).heap.size = q := ⟨_, rfl⟩
  have hB2' : B2 = w.heap.size + 1 := by rw [← hB2]; exact World.size_alloc _ _
  rw [hB2, hB2', ← hw2] at hc2
  rw [← hw2] at hc1'
  have HC1 := Lib.hid hc1'
  have HC2 := Lib.hid hc2
  have KX := Lib.hid (strEq_any xs xs' px1 Ax1 kx1 px2 Ax2 kx2 w2 hAx1 hAx2 (hx1.keep HB2.out) (hx2.keep HB2.out))
  have KY : Hid (∀ W, Below w.heap.size w W → Calls Tryz.prog 85 #[.slice py1 Ay1 ky1, .slice py2 Ay2 ky2, .func (.func 86) #[] #[]] W fun r w' => r = .returned (.bool (Sy.sameMs bs bs')) ∧ Below W.heap.size W w') := fun W hb => eqFuncM_of equalMethod_any bs bs' py1 Ay1 ky1 py2 Ay2 ky2 W hAy1 hAy2 (hy1.keep hb) (hy2.keep hb)
  have HW2 := Lib.hid hw2
  unfold classV
  have hsame : Sy.sameC (.mk nm a xs bs) (.mk nm' a' xs' bs') = (decide (nm = nm') && decide (a = a') && decide (xs = xs') && Sy.sameMs bs bs') := rfl
  rw [hsame]
  obtain ⟨qx, hqx⟩ : ∃ q, decide (xs = xs') = q := ⟨_, rfl⟩
  obtain ⟨qy, hqy⟩ : ∃ q, Sy.sameMs bs bs' = q := ⟨_, rfl⟩
  rw [hqx] at KX ⊢
  rw [hqy] at KY ⊢
  clear hx1 hy1 hx2 hy2 hAx1 hAy1 hAx2 hAy2 hb1 hb2 hw2 hc1 hc2 hbk hc1' hB2 hB2' hsame hqx hqy
  by_cases hn : nm = nm'
  · subst hn
    by_cases ha : a = a'
    · subst ha
      have HC12 := HC1
      have HC22 := HC2
      go_enter Tryz.func41, Tryz.ntmps41
      go_wp2_with fail
      rw [← HW2.out]
      refine KX.out.mono ?_
      rintro e' w3 ⟨rfl, hb⟩
      have HB3 := Lib.hid (HB2.out.trans (hb.mono HB2.out.size))
      have HC13 := Lib.hid ((hb.block _ (Array.getElem?_eq_some_iff.1 HC12.out).1).trans HC12.out)
      have HC23 := Lib.hid ((hb.block _ (Array.getElem?_eq_some_iff.1 HC22.out).1).trans HC22.out)
      clear hb
      clear HW2
      cases qx
      · go_wp2_with fail
        go_ret
        exact ⟨by simp, HB3.out⟩
      · have u1 := cell_of_blkP HC13.out (j := 3) (u := .slice py1 Ay1 ky1) rfl
        have u2 := cell_of_blkP HC23.out (j := 3) (u := .slice py2 Ay2 ky2) rfl
        go_wp2_with fail
        refine (KY.out _ HB3.out).mono ?_
        rintro e' w4 ⟨rfl, hb⟩
        have HB4 := Lib.hid (HB3.out.trans (hb.mono HB3.out.size))
        clear hb
        clear u1 u2
        go_wp2_with fail
        go_ret
        exact ⟨by simp, HB4.out⟩
    · go_enter Tryz.func41, Tryz.ntmps41
      go_wp2_with fail
      rw [← HW2.out]
      go_ret
      exact ⟨by simp, HB2.out⟩
  · have hn2 := list_ne hn
    go_enter Tryz.func41, Tryz.ntmps41
    go_wp2_with fail
    rw [← HW2.out]
    go_ret
    exact ⟨by simp, HB2.out⟩
set_option maxRecDepth 100000 in
set_option maxHeartbeats 4000000 in
theorem equal_any (l1 l2 : List Tr.C) (v1 v2 : Value) (w : World) (h1 : SlC w v1 l1) (h2 : SlC w v2 l2) :
    Calls Tryz.prog 17 #[.agg #[v1], .agg #[v2]] w fun r w' => r = .returned (.bool (Sy.sameCs l1 l2)) ∧ Below w.heap.size w w' := by
  obtain ⟨p1, c1, rfl⟩ := h1.form
  obtain ⟨p2, c2, rfl⟩ := h2.form
  obtain ⟨N1, hN1⟩ : ∃ q, l1.length = q := ⟨_, rfl⟩
  obtain ⟨N2, hN2⟩ : ∃ q, l2.length = q := ⟨_, rfl⟩
  rw [hN1] at h1 ⊢
  rw [hN2] at h2 ⊢
  have hb1 := below_box w (.cells #[.slice p1 N1 c1] 25)
  have hb2 := hb1.alloc hb1.size (.cells #[.slice p2 N2 c2] 25)
  obtain ⟨w2, hw2⟩ : ∃ q, q = (w.alloc (.cells #[.slice p1 N1 c1] 25)).alloc (.cells #[.slice p2 N2 c2] 25) := ⟨_, rfl⟩
  rw [← hw2] at hb2
  have K := Lib.hid (eqFuncC_of equalClass_any l1 l2 p1 N1 c1 p2 N2 c2 w2 hN1 hN2 (h1.keep hb2) (h2.keep hb2))
  have HB2 := Lib.hid hb2
  have HW2 := Lib.hid hw2
  clear h1 h2 hN1 hN2 hb1 hb2 hw2
  go_enter Tryz.func17, Tryz.ntmps17
  go_wp2_with fail
  rw [← HW2.out]
  refine K.out.mono ?_
  rintro e' w3 ⟨rfl, hb⟩
  have HB3 := Lib.hid (HB2.out.trans (hb.mono HB2.out.size))
  clear hb HW2
  go_wp2_with fail
  go_ret
  exact ⟨rfl, HB3.out⟩
end Go.Proofs.YtdckddkalgnlpaaGreatDoor
