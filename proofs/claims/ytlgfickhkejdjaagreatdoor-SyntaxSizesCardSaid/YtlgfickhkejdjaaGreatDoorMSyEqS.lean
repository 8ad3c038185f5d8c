/-
  Equality of statements: slices.EqualFunc over statements and equalStmt, walked.
-/
import Derived.Test.YtlgfickhkejdjaaGreatDoorMSyG
namespace Go.Proofs.YtlgfickhkejdjaaGreatDoor
open Go.RowKit Go.Maps

def EqSC (d : Nat) : Prop := ∀ (x y : Tr.S) (x1 y1 z1 x2 y2 z2 : Value) (W : World), x.deep ≤ d → SlE W x1 x.exprs → SlS W y1 x.body → SlS W z1 x.els → SlE W x2 y.exprs → SlS W y2 y.body → SlS W z2 y.els →
  Calls Tryz.prog 129 #[stmtV x x1 y1 z1, stmtV y x2 y2 z2] W fun r w' => r = .returned (.bool (Sy.sameS x y)) ∧ Below W.heap.size W w'

set_option maxRecDepth 100000 in
set_option maxHeartbeats 4000000 in
theorem eqFuncS_of {d : Nat} (hC : EqSC d) (l1 l2 : List Tr.S) (p1 : Option Addr) (N1 c1 : Nat) (p2 : Option Addr) (N2 c2 : Nat) (w : World) (hd : Tr.S.deep.deeps l1 ≤ d) (hN1 : l1.length = N1) (hN2 : l2.length = N2) (h1 : SlS w (.slice p1 N1 c1) l1) (h2 : SlS w (.slice p2 N2 c2) l2) :
    Calls Tryz.prog 128 #[.slice p1 N1 c1, .slice p2 N2 c2, .func (.func 129) #[] #[]] w fun r w' => r = .returned (.bool (Sy.sameSs l1 l2)) ∧ Below w.heap.size w w' := by
  have hn1 : N1 ≤ 9223372036854775807 := by
    have := h1.len
    rw [hN1] at this
    unfold maxLen at this
    exact this
  have hn2 : N2 ≤ 9223372036854775807 := by
    have := h2.len
    rw [hN2] at this
    unfold maxLen at this
    exact this
  have HC := Lib.hid hC
  have HD := Lib.hid hd
  have HN1 := Lib.hid hN1
  have HN2 := Lib.hid hN2
  have H1 := Lib.hid h1
  have H2 := Lib.hid h2
  clear hC hd hN1 hN2 h1 h2
  by_cases hne : N1 = N2
  · subst hne
    go_enter Tryz.func128, Tryz.ntmps128
    go_wp2_with fail
    go_loopg [7, 8, 9, 17] N1 (fun g s7 s8 s9 s17 wr => ∃ j : Nat, s17 = .int .i64 j ∧ j ≤ N1 ∧ g = N1 - j ∧ Hid (l1.take j = l2.take j) ∧ Hid (Below w.heap.size w wr))
    case atStart => exact ⟨0, rfl, Nat.zero_le _, rfl, rfl, Below.refl _ _⟩
    case round =>
      obtain ⟨j, rfl, hj, rfl, HT, HB⟩ := hrel
      by_cases hlt : j < N1
      · obtain ⟨x, hx⟩ : ∃ x, l1[j]? = some x := ⟨_, List.getElem?_eq_getElem (by rw [HN1.out]; exact hlt)⟩
        obtain ⟨y, hy⟩ : ∃ x, l2[j]? = some x := ⟨_, List.getElem?_eq_getElem (by rw [HN2.out]; exact hlt)⟩
        obtain ⟨b1, o1, vx1, vy1, vz1, rfl, _, hc1, _, hx1, hy1, hz1⟩ := H1.out.get hx
        obtain ⟨px1, kx1, rfl, _⟩ := hx1.form
        obtain ⟨Ax1, hAx1⟩ : ∃ q, x.exprs.length = q := ⟨_, rfl⟩
        rw [hAx1] at hx1 hc1
        clear hAx1
        obtain ⟨py1, ky1, rfl, _⟩ := hy1.form
        obtain ⟨Ay1, hAy1⟩ : ∃ q, x.body.length = q := ⟨_, rfl⟩
        rw [hAy1] at hy1 hc1
        clear hAy1
        obtain ⟨pz1, kz1, rfl, _⟩ := hz1.form
        obtain ⟨Az1, hAz1⟩ : ∃ q, x.els.length = q := ⟨_, rfl⟩
        rw [hAz1] at hz1 hc1
        clear hAz1
        obtain ⟨b2, o2, vx2, vy2, vz2, rfl, _, hc2, _, hx2, hy2, hz2⟩ := H2.out.get hy
        obtain ⟨px2, kx2, rfl, _⟩ := hx2.form
        obtain ⟨Ax2, hAx2⟩ : ∃ q, y.exprs.length = q := ⟨_, rfl⟩
        rw [hAx2] at hx2 hc2
        clear hAx2
        obtain ⟨py2, ky2, rfl, _⟩ := hy2.form
        obtain ⟨Ay2, hAy2⟩ : ∃ q, y.body.length = q := ⟨_, rfl⟩
        rw [hAy2] at hy2 hc2
        clear hAy2
        obtain ⟨pz2, kz2, rfl, _⟩ := hz2.form
        obtain ⟨Az2, hAz2⟩ : ∃ q, y.els.length = q := ⟨_, rfl⟩
        rw [hAz2] at hz2 hc2
        clear hAz2
        obtain ⟨x0, x1, x2, x3, x4⟩ := hc1.keep HB.out
        obtain ⟨y0, y1, y2, y3, y4⟩ := hc2.keep HB.out
        have hb4 := HB.out.alloc HB.out.size (.cells #[.int .i64 x.kind, .string x.name, .slice px1 Ax1 kx1, .slice py1 Ay1 ky1, .slice pz1 Az1 kz1] 46)
        have hb5 := hb4.alloc hb4.size (.cells #[.int .i64 y.kind, .string y.name, .slice px2 Ax2 kx2, .slice py2 Ay2 ky2, .slice pz2 Az2 kz2] 46)
        obtain ⟨w5, hw5⟩ : ∃ q, q = (wr.alloc (.cells #[.int .i64 x.kind, .string x.name, .slice px1 Ax1 kx1, .slice py1 Ay1 ky1, .slice pz1 Az1 kz1] 46)).alloc (.cells #[.int .i64 y.kind, .string y.name, .slice px2 Ax2 kx2, .slice py2 Ay2 ky2, .slice pz2 Az2 kz2] 46) := ⟨_, rfl⟩
        rw [← hw5] at hb5
        have hcall := HC.out x y _ _ _ _ _ _ w5 (Nat.le_trans (Tr.S.deeps_get l1 j x hx) HD.out) (hx1.keep hb5) (hy1.keep hb5) (hz1.keep hb5) (hx2.keep hb5) (hy2.keep hb5) (hz2.keep hb5)
        unfold stmtV at hcall
        have HW5 := Lib.hid hw5
        have HB5 := Lib.hid hb5
        have HX := Lib.hid hx
        have HY := Lib.hid hy
        have b3 : (j : Int) < (N1 : Int) := by omega
        have hl1 := cell_lt' x0
        have hl2 := cell_lt' y0
        obtain ⟨S, hSx⟩ : ∃ q, Sy.sameS x y = q := ⟨_, rfl⟩
        rw [hSx] at hcall
        have HSX := Lib.hid hSx
        have HCALL := Lib.hid hcall
        clear hx hy hc1 hc2 hx1 hy1 hz1 hx2 hy2 hz2 hb4 hb5 hw5 hcall hSx
        cases S
        · go_wp2_with fail
          rw [← HW5.out]
          refine HCALL.out.mono ?_
          rintro e' w6 ⟨rfl, hb6⟩
          have HB6 := Lib.hid (HB5.out.trans (hb6.mono HB5.out.size))
          clear hb6 HW5 x0 x1 x2 x3 x4 y0 y1 y2 y3 y4 hl1 hl2
          go_wp2_with fail
          go_ret
          refine ⟨?_, HB6.out⟩
          rw [show Sy.sameSs l1 l2 = false by
            rw [Bool.eq_false_iff]
            intro h
            rw [Sy.sameSs_iff] at h
            have h3 := HX.out
            rw [h, HY.out] at h3
            have h4 := HSX.out
            rw [Option.some.inj h3, (Sy.sameS_iff x x).2 rfl] at h4
            cases h4]
          rfl
        · go_wp2_with fail
          rw [← HW5.out]
          refine HCALL.out.mono ?_
          rintro e' w6 ⟨rfl, hb6⟩
          have HB6 := Lib.hid (HB5.out.trans (hb6.mono HB5.out.size))
          clear hb6 HW5 x0 x1 x2 x3 x4 y0 y1 y2 y3 y4 hl1 hl2
          go_wp2_with fail
          go_roundg (N1 - (j + 1))
          case measure => omega
          case rel => exact ⟨j + 1, by go_num, by omega, rfl, take_grow HT.out HX.out (by rw [HY.out, (Sy.sameS_iff x y).1 HSX.out]), HB6⟩
      · obtain rfl : j = N1 := by omega
        go_wp2_with fail
        go_ret
        refine ⟨?_, HB.out⟩
        rw [(Sy.sameSs_iff l1 l2).2 (by have h := HT.out; rw [List.take_of_length_le (by rw [HN1.out]; exact Nat.le_refl _), List.take_of_length_le (by rw [HN2.out]; exact Nat.le_refl _)] at h; exact h)]
        rfl
  · have hf : Sy.sameSs l1 l2 = false := by
      rw [Bool.eq_false_iff]
      intro h
      rw [Sy.sameSs_iff] at h
      exact hne (by rw [← HN1.out, ← HN2.out, h])
    rw [hf]
    clear hf
    have hne2 : ¬ (N1 : Int) = (N2 : Int) := by omega
    go_enter Tryz.func128, Tryz.ntmps128
    go_wp2_with fail
    go_ret
    exact ⟨rfl, Below.refl _ _⟩

set_option maxRecDepth 100000 in
set_option maxHeartbeats 4000000 in
theorem equalStmt_any : ∀ d : Nat, EqSC d := by
  intro d
  induction d with
  | zero => intro x y _ _ _ _ _ _ W hd; have := x.deep_pos; omega
  | succ d ih =>
    intro x y vx1 vy1 vz1 vx2 vy2 vz2 w hd hx1 hy1 hz1 hx2 hy2 hz2
    have hde := S_deep_eq x
    obtain ⟨k, nm, xs, bs, ls⟩ := x
    obtain ⟨k', nm', xs', bs', ls'⟩ := y
    have hx1 : SlE w vx1 xs := hx1
    have hy1 : SlS w vy1 bs := hy1
    have hz1 : SlS w vz1 ls := hz1
    have hx2 : SlE w vx2 xs' := hx2
    have hy2 : SlS w vy2 bs' := hy2
    have hz2 : SlS w vz2 ls' := hz2
    have hde : (Tr.S.mk k nm xs bs ls).deep = 1 + max (Tr.S.deep.deeps bs) (Tr.S.deep.deeps ls) := hde
    obtain ⟨px1, kx1, rfl, _⟩ := hx1.form
    obtain ⟨Ax1, hAx1⟩ : ∃ q, xs.length = q := ⟨_, rfl⟩
    rw [hAx1] at hx1 ⊢
    obtain ⟨py1, ky1, rfl, _⟩ := hy1.form
    obtain ⟨Ay1, hAy1⟩ : ∃ q, bs.length = q := ⟨_, rfl⟩
    rw [hAy1] at hy1 ⊢
    obtain ⟨pz1, kz1, rfl, _⟩ := hz1.form
    obtain ⟨Az1, hAz1⟩ : ∃ q, ls.length = q := ⟨_, rfl⟩
    rw [hAz1] at hz1 ⊢
    obtain ⟨px2, kx2, rfl, _⟩ := hx2.form
    obtain ⟨Ax2, hAx2⟩ : ∃ q, xs'.length = q := ⟨_, rfl⟩
    rw [hAx2] at hx2 ⊢
    obtain ⟨py2, ky2, rfl, _⟩ := hy2.form
    obtain ⟨Ay2, hAy2⟩ : ∃ q, bs'.length = q := ⟨_, rfl⟩
    rw [hAy2] at hy2 ⊢
    obtain ⟨pz2, kz2, rfl, _⟩ := hz2.form
    obtain ⟨Az2, hAz2⟩ : ∃ q, ls'.length = q := ⟨_, rfl⟩
    rw [hAz2] at hz2 ⊢
    have hb1 := below_box w (.cells #[.int .i64 k, .string nm, .slice px1 Ax1 kx1, .slice py1 Ay1 ky1, .slice pz1 Az1 kz1] 46)
    have hb2 := hb1.alloc hb1.size (.cells #[.int .i64 k', .string nm', .slice px2 Ax2 kx2, .slice py2 Ay2 ky2, .slice pz2 Az2 kz2] 46)
    obtain ⟨w2, hw2⟩ : ∃ q, q = (w.alloc (.cells #[.int .i64 k, .string nm, .slice px1 Ax1 kx1, .slice py1 Ay1 ky1, .slice pz1 Az1 kz1] 46)).alloc (.cells #[.int .i64 k', .string nm', .slice px2 Ax2 kx2, .slice py2 Ay2 ky2, .slice pz2 Az2 kz2] 46) := ⟨_, rfl⟩
    have HB2 : Hid (Below w.heap.size w w2) := by rw [hw2]; exact hb2
    have hc1 := (MapKept.heap_alloc w (.cells #[.int .i64 k, .string nm, .slice px1 Ax1 kx1, .slice py1 Ay1 ky1, .slice pz1 Az1 kz1] 46)).1
    have hc2 := (MapKept.heap_alloc (w.alloc (.cells #[.int .i64 k, .string nm, .slice px1 Ax1 kx1, .slice py1 Ay1 ky1, .slice pz1 Az1 kz1] 46)) (.cells #[.int .i64 k', .string nm', .slice px2 Ax2 kx2, .slice py2 Ay2 ky2, .slice pz2 Az2 kz2] 46)).1
    have hbk := below_box (w.alloc (.cells #[.int .i64 k, .string nm, .slice px1 Ax1 kx1, .slice py1 Ay1 ky1, .slice pz1 Az1 kz1] 46)) (.cells #[.int .i64 k', .string nm', .slice px2 Ax2 kx2, .slice py2 Ay2 ky2, .slice pz2 Az2 kz2] 46)
    have hc1' := (hbk.block _ (Array.getElem?_eq_some_iff.1 hc1).1).trans hc1
    obtain ⟨B2, hB2⟩ : ∃ q, (w.alloc (.cells #[.int .i64 k, .string nm, .slice px1 Ax1 kx1, .slice py1 Ay1 ky1, .slice pz1 Az1 kz1] 46)).heap.size = q := ⟨_, rfl⟩
    have hB2' : B2 = w.heap.size + 1 := by rw [← hB2]; exact World.size_alloc _ _
    rw [hB2, hB2', ← hw2] at hc2
    rw [← hw2] at hc1'
    have HC1 := Lib.hid hc1'
    have HC2 := Lib.hid hc2
    have KX := Lib.hid (eqFuncE_of (equalExpr_any _) xs xs' px1 Ax1 kx1 px2 Ax2 kx2 w2 (Nat.le_refl _) hAx1 hAx2 (hx1.keep HB2.out) (hx2.keep HB2.out))
    have KY : Hid (∀ W, Below w.heap.size w W → Calls Tryz.prog 128 #[.slice py1 Ay1 ky1, .slice py2 Ay2 ky2, .func (.func 129) #[] #[]] W fun r w' => r = .returned (.bool (Sy.sameSs bs bs')) ∧ Below W.heap.size W w') := fun W hb => eqFuncS_of ih bs bs' py1 Ay1 ky1 py2 Ay2 ky2 W (by omega) hAy1 hAy2 (hy1.keep hb) (hy2.keep hb)
    have KZ : Hid (∀ W, Below w.heap.size w W → Calls Tryz.prog 128 #[.slice pz1 Az1 kz1, .slice pz2 Az2 kz2, .func (.func 129) #[] #[]] W fun r w' => r = .returned (.bool (Sy.sameSs ls ls')) ∧ Below W.heap.size W w') := fun W hb => eqFuncS_of ih ls ls' pz1 Az1 kz1 pz2 Az2 kz2 W (by omega) hAz1 hAz2 (hz1.keep hb) (hz2.keep hb)
    have HW2 := Lib.hid hw2
    unfold stmtV
    simp only [Tr.S.kind, Tr.S.name]
    have hsame : Sy.sameS (.mk k nm xs bs ls) (.mk k' nm' xs' bs' ls') = (decide (k = k') && decide (nm = nm') && Sy.sameEs xs xs' && Sy.sameSs bs bs' && Sy.sameSs ls ls') := by rw [Sy.sameS]
    rw [hsame]
    obtain ⟨qx, hqx⟩ : ∃ q, Sy.sameEs xs xs' = q := ⟨_, rfl⟩
    obtain ⟨qy, hqy⟩ : ∃ q, Sy.sameSs bs bs' = q := ⟨_, rfl⟩
    obtain ⟨qz, hqz⟩ : ∃ q, Sy.sameSs ls ls' = q := ⟨_, rfl⟩
    rw [hqx] at KX ⊢
    rw [hqy] at KY ⊢
    rw [hqz] at KZ ⊢
    clear hde hx1 hy1 hz1 hx2 hy2 hz2 hAx1 hAy1 hAz1 hAx2 hAy2 hAz2 hb1 hb2 hw2 hc1 hc2 hbk hc1' hB2 hB2' hd ih hsame hqx hqy hqz
    by_cases hk : k = k'
    · subst hk
      by_cases hn : nm = nm'
      · subst hn
        have HC12 := HC1
        have HC22 := HC2
        go_enter Tryz.func129, Tryz.ntmps129
        go_wp2_with fail
        rw [← HW2.out]
        refine KX.out.mono ?_
        rintro e' w3 ⟨rfl, hb⟩
        have HB3 := Lib.hid (HB2.out.trans (hb.mono HB2.out.size))
        have HC13 := Lib.hid ((hb.block _ (Array.getElem?_eq_some_iff.1 HC12.out).1).trans HC12.out)
        have HC23 := Lib.hid ((hb.block _ (Array.getElem?_eq_some_iff.1 HC22.out).1).trans HC22.out)
        clear hb
        clear HW2
        cases qx
        · go_wp2_with fail
          go_ret
          exact ⟨by simp, HB3.out⟩
        · have u1 := cell_of_blkP HC13.out (j := 3) (u := .slice py1 Ay1 ky1) rfl
          have u2 := cell_of_blkP HC23.out (j := 3) (u := .slice py2 Ay2 ky2) rfl
          go_wp2_with fail
          refine (KY.out _ HB3.out).mono ?_
          rintro e' w4 ⟨rfl, hb⟩
          have HB4 := Lib.hid (HB3.out.trans (hb.mono HB3.out.size))
          have HC14 := Lib.hid ((hb.block _ (Array.getElem?_eq_some_iff.1 HC13.out).1).trans HC13.out)
          have HC24 := Lib.hid ((hb.block _ (Array.getElem?_eq_some_iff.1 HC23.out).1).trans HC23.out)
          clear hb
          clear u1 u2
          cases qy
          · go_wp2_with fail
            go_ret
            exact ⟨by simp, HB4.out⟩
          · have u1 := cell_of_blkP HC14.out (j := 4) (u := .slice pz1 Az1 kz1) rfl
            have u2 := cell_of_blkP HC24.out (j := 4) (u := .slice pz2 Az2 kz2) rfl
            go_wp2_with fail
            refine (KZ.out _ HB4.out).mono ?_
            rintro e' w5 ⟨rfl, hb⟩
            have HB5 := Lib.hid (HB4.out.trans (hb.mono HB4.out.size))
            clear hb
            clear u1 u2
            go_wp2_with fail
            go_ret
            exact ⟨by simp, HB5.out⟩
      · have hn2 := list_ne hn
        go_enter Tryz.func129, Tryz.ntmps129
        go_wp2_with fail
        rw [← HW2.out]
        go_ret
        exact ⟨by simp [hn], HB2.out⟩
    · go_enter Tryz.func129, Tryz.ntmps129
      go_wp2_with fail
      rw [← HW2.out]
      go_ret
      exact ⟨by simp [hk], HB2.out⟩
end Go.Proofs.YtlgfickhkejdjaaGreatDoor
