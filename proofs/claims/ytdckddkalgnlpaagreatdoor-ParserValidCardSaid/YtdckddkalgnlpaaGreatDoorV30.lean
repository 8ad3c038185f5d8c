/-
  Several texts in one: SyEqS, SyEqM, SyEqMM, SyEqC, SyEqCC, PbLawJoin, TrName.
-/
import Derived.Test.YtdckddkalgnlpaaGreatDoorV29
import Derived.IntWalk
import Derived.Test.YtdckddkalgnlpaaGreatDoorV5
import Derived.Test.YtdckddkalgnlpaaGreatDoorV1
namespace Go.Proofs.YtdckddkalgnlpaaGreatDoor
open Go.RowKit Go.Maps
def EqSC (d : Nat) : Prop := ∀ (x y : Tr.S) (x1 y1 z1 x2 y2 z2 : Value) (W : World), x.deep ≤ d → SlE W x1 x.exprs → SlS W y1 x.body → SlS W z1 x.els → SlE W x2 y.exprs → SlS W y2 y.body → SlS W z2 y.els →
 Calls Tryz.prog 138 #[stmtV x x1 y1 z1, stmtV y x2 y2 z2] W fun r w' => r = .returned (.bool (Sy.sameS x y)) ∧ Below W.heap.size W w'
set_option maxRecDepth 100000 in
set_option maxHeartbeats 4000000 in
theorem eqFuncS_of {d : Nat} (hC : EqSC d) (l1 l2 : List Tr.S) (p1 : Option Addr) (N1 c1 : Nat) (p2 : Option Addr) (N2 c2 : Nat) (w : World) (hd : Tr.S.deep.deeps l1 ≤ d) (hN1 : l1.length = N1) (hN2 : l2.length = N2) (h1 : SlS w (.slice p1 N1 c1) l1) (h2 : SlS w (.slice p2 N2 c2) l2) :
 Calls Tryz.prog 137 #[.slice p1 N1 c1, .slice p2 N2 c2, .func (.func 138) #[] #[]] w fun r w' => r = .returned (.bool (Sy.sameSs l1 l2)) ∧ Below w.heap.size w w' := by
 have hn1 : N1 ≤ 9223372036854775807 := by
  have := h1.len
  rw [hN1] at this
  unfold maxLen at this
  exact this
 have hn2 : N2 ≤ 9223372036854775807 := by
  have := h2.len
  rw [hN2] at this
  unfold maxLen at this
  exact this
 have HC := Lib.hid hC
 have HD := Lib.hid hd
 have HN1 := Lib.hid hN1
 have HN2 := Lib.hid hN2
 have H1 := Lib.hid h1
 have H2 := Lib.hid h2
 clear hC hd hN1 hN2 h1 h2
 by_cases hne : N1 = N2
 ·subst hne
  go_enter Tryz.func137, Tryz.ntmps137
  go_wp2_with fail
  go_loopg [7, 8, 9, 17] N1 (fun g s7 s8 s9 s17 wr => ∃ j : Nat, s17 = .int .i64 j ∧ j ≤ N1 ∧ g = N1 - j ∧ Hid (l1.take j = l2.take j) ∧ Hid (Below w.heap.size w wr))
  case atStart => exact ⟨0, rfl, Nat.zero_le _, rfl, rfl, Below.refl _ _⟩
  case round =>
   obtain ⟨j, rfl, hj, rfl, HT, HB⟩ := hrel
   by_cases hlt : j < N1
   ·obtain ⟨x, hx⟩ : ∃ x, l1[j]? = some x := ⟨_, List.getElem?_eq_getElem (by rw [HN1.out]; exact hlt)⟩
    obtain ⟨y, hy⟩ : ∃ x, l2[j]? = some x := ⟨_, List.getElem?_eq_getElem (by rw [HN2.out]; exact hlt)⟩
    obtain ⟨b1, o1, vx1, vy1, vz1, rfl, _, hc1, _, hx1, hy1, hz1⟩ := H1.out.get hx
    obtain ⟨px1, kx1, rfl, _⟩ := hx1.form
    obtain ⟨Ax1, hAx1⟩ : ∃ q, x.exprs.length = q := ⟨_, rfl⟩
    rw [hAx1] at hx1 hc1
    clear hAx1
    obtain ⟨py1, ky1, rfl, _⟩ := hy1.form
    obtain ⟨Ay1, hAy1⟩ : ∃ q, x.body.length = q := ⟨_, rfl⟩
    rw [hAy1] at hy1 hc1
    clear hAy1
    obtain ⟨pz1, kz1, rfl, _⟩ := hz1.form
    obtain ⟨Az1, hAz1⟩ : ∃ q, x.els.length = q := ⟨_, rfl⟩
    rw [hAz1] at hz1 hc1
    clear hAz1
    obtain ⟨b2, o2, vx2, vy2, vz2, rfl, _, hc2, _, hx2, hy2, hz2⟩ := H2.out.get hy
    obtain ⟨px2, kx2, rfl, _⟩ := hx2.form
    obtain ⟨Ax2, hAx2⟩ : ∃ q, y.exprs.length = q := ⟨_, rfl⟩
    rw [hAx2] at hx2 hc2
    clear hAx2
    obtain ⟨py2, ky2, rfl, _⟩ := hy2.form
    obtain ⟨Ay2, hAy2⟩ : ∃ q, y.body.length = q := ⟨_, rfl⟩
    rw [hAy2] at hy2 hc2
    clear hAy2
    obtain ⟨pz2, kz2, rfl, _⟩ := hz2.form
    obtain ⟨Az2, hAz2⟩ : ∃ q, y.els.length = q := ⟨_, rfl⟩
    rw [hAz2] at hz2 hc2
    clear hAz2
    obtain ⟨x0, x1, x2, x3, x4⟩ := hc1.keep HB.out
    obtain ⟨y0, y1, y2, y3, y4⟩ := hc2.keep HB.out
    have hb4 := HB.out.alloc HB.out.size (.cells #[.int .i64 x.kind, .string x.name, .slice px1 Ax1 kx1, .slice py1 Ay1 ky1, .slice pz1 Az1 kz1] 94)
    have hb5 := hb4.alloc hb4.size (.cells #[.int .i64 y.kind, .string y.name, .slice px2 Ax2 kx2, .slice py2 Ay2 ky2, .slice pz2 Az2 kz2] 94)
    obtain ⟨w5, hw5⟩ : ∃ q, q = (wr.alloc (.cells #[.int .i64 x.kind, .string x.name, .slice px1 Ax1 kx1, .slice py1 Ay1 ky1, .slice pz1 Az1 kz1] 94)).alloc (.cells #[.int .i64 y.kind, .string y.name, .slice px2 Ax2 kx2, .slice py2 Ay2 ky2, .slice pz2 Az2 kz2] 94) := ⟨_, rfl⟩
    rw [← hw5] at hb5
    have hcall := HC.out x y _ _ _ _ _ _ w5 (Nat.le_trans (Tr.S.deeps_get l1 j x hx) HD.out) (hx1.keep hb5) (hy1.keep hb5) (hz1.keep hb5) (hx2.keep hb5) (hy2.keep hb5) (hz2.keep hb5)
    unfold stmtV at hcall
    have HW5 := Lib.hid hw5
    have HB5 := Lib.hid hb5
    have HX := Lib.hid hx
    have HY := Lib.hid hy
    have b3 : (j : Int) < (N1 : Int) := by omega
    have hl1 := cell_lt' x0
    have hl2 := cell_lt' y0
    obtain ⟨S, hSx⟩ : ∃ q, Sy.sameS x y = q := ⟨_, rfl⟩
    rw [hSx] at hcall
    have HSX := Lib.hid hSx
    have HCALL := Lib.hid hcall
    clear hx hy hc1 hc2 hx1 hy1 hz1 hx2 hy2 hz2 hb4 hb5 hw5 hcall hSx
    cases S
    ·go_wp2_with fail
     rw [← HW5.out]
     refine HCALL.out.mono ?_
     rintro e' w6 ⟨rfl, hb6⟩
     have HB6 := Lib.hid (HB5.out.trans (hb6.mono HB5.out.size))
     clear hb6 HW5 x0 x1 x2 x3 x4 y0 y1 y2 y3 y4 hl1 hl2
     go_wp2_with fail
     go_ret
     refine ⟨?_, HB6.out⟩
     rw [show Sy.sameSs l1 l2 = false by
      rw [Bool.eq_false_iff]
      intro h
      rw [Sy.sameSs_iff] at h
      have h3 := HX.out
      rw [h, HY.out] at h3
      have h4 := HSX.out
      rw [Option.some.inj h3, (Sy.sameS_iff x x).2 rfl] at h4
      cases h4]
     rfl
    ·go_wp2_with fail
     rw [← HW5.out]
     refine HCALL.out.mono ?_
     rintro e' w6 ⟨rfl, hb6⟩
     have HB6 := Lib.hid (HB5.out.trans (hb6.mono HB5.out.size))
     clear hb6 HW5 x0 x1 x2 x3 x4 y0 y1 y2 y3 y4 hl1 hl2
     go_wp2_with fail
     go_roundg (N1 - (j + 1))
     case measure => omega
     case rel => exact ⟨j + 1, by go_num, by omega, rfl, take_grow HT.out HX.out (by rw [HY.out, (Sy.sameS_iff x y).1 HSX.out]), HB6⟩
   ·obtain rfl : j = N1 := by omega
    go_wp2_with fail
    go_ret
    refine ⟨?_, HB.out⟩
    rw [(Sy.sameSs_iff l1 l2).2 (by have h := HT.out; rw [List.take_of_length_le (by rw [HN1.out]; exact Nat.le_refl _), List.take_of_length_le (by rw [HN2.out]; exact Nat.le_refl _)] at h; exact h)]
    rfl
 ·have hf : Sy.sameSs l1 l2 = false := by
   rw [Bool.eq_false_iff]
   intro h
   rw [Sy.sameSs_iff] at h
   exact hne (by rw [← HN1.out, ← HN2.out, h])
  rw [hf]
  clear hf
  have hne2 : ¬ (N1 : Int) = (N2 : Int) := by omega
  go_enter Tryz.func137, Tryz.ntmps137
  go_wp2_with fail
  go_ret
  exact ⟨rfl, Below.refl _ _⟩
set_option maxRecDepth 100000 in
set_option maxHeartbeats 4000000 in
theorem equalStmt_any : ∀ d : Nat, EqSC d := by
 intro d
 induction d with
 | zero => intro x y _ _ _ _ _ _ W hd; have := x.deep_pos; omega
 | succ d ih =>
   intro x y vx1 vy1 vz1 vx2 vy2 vz2 w hd hx1 hy1 hz1 hx2 hy2 hz2
   have hde := S_deep_eq x
   obtain ⟨k, nm, xs, bs, ls⟩ := x
   obtain ⟨k', nm', xs', bs', ls'⟩ := y
   have hx1 : SlE w vx1 xs := hx1
   have hy1 : SlS w vy1 bs := hy1
   have hz1 : SlS w vz1 ls := hz1
   have hx2 : SlE w vx2 xs' := hx2
   have hy2 : SlS w vy2 bs' := hy2
   have hz2 : SlS w vz2 ls' := hz2
   have hde : (Tr.S.mk k nm xs bs ls).deep = 1 + max (Tr.S.deep.deeps bs) (Tr.S.deep.deeps ls) := hde
   obtain ⟨px1, kx1, rfl, _⟩ := hx1.form
   obtain ⟨Ax1, hAx1⟩ : ∃ q, xs.length = q := ⟨_, rfl⟩
   rw [hAx1] at hx1 ⊢
   obtain ⟨py1, ky1, rfl, _⟩ := hy1.form
   obtain ⟨Ay1, hAy1⟩ : ∃ q, bs.length = q := ⟨_, rfl⟩
   rw [hAy1] at hy1 ⊢
   obtain ⟨pz1, kz1, rfl, _⟩ := hz1.form
   obtain ⟨Az1, hAz1⟩ : ∃ q, ls.length = q := ⟨_, rfl⟩
   rw [hAz1] at hz1 ⊢
   obtain ⟨px2, kx2, rfl, _⟩ := hx2.form
   obtain ⟨Ax2, hAx2⟩ : ∃ q, xs'.length = q := ⟨_, rfl⟩
   rw [hAx2] at hx2 ⊢
   obtain ⟨py2, ky2, rfl, _⟩ := hy2.form
   obtain ⟨Ay2, hAy2⟩ : ∃ q, bs'.length = q := ⟨_, rfl⟩
   rw [hAy2] at hy2 ⊢
   obtain ⟨pz2, kz2, rfl, _⟩ := hz2.form
   obtain ⟨Az2, hAz2⟩ : ∃ q, ls'.length = q := ⟨_, rfl⟩
   rw [hAz2] at hz2 ⊢
   have hb1 := below_box w (.cells #[.int .i64 k, .string nm, .slice px1 Ax1 kx1, .slice py1 Ay1 ky1, .slice pz1 Az1 kz1] 94)
   have hb2 := hb1.alloc hb1.size (.cells #[.int .i64 k', .string nm', .slice px2 Ax2 kx2, .slice py2 Ay2 ky2, .slice pz2 Az2 kz2] 94)
   obtain ⟨w2, hw2⟩ : ∃ q, q = (w.alloc (.cells #[.int .i64 k, .string nm, .slice px1 Ax1 kx1, .slice py1 Ay1 ky1, .slice pz1 Az1 kz1] 94)).alloc (.cells #[.int .i64 k', .string nm', .slice px2 Ax2 kx2, .slice py2 Ay2 ky2, .slice pz2 Az2 kz2] 94) := ⟨_, rfl⟩
   have HB2 : Hid (Below w.heap.size w w2) := by rw [hw2]; exact hb2
   have hc1 := (MapKept.heap_alloc w (.cells #[.int .i64 k, .string nm, .slice px1 Ax1 kx1, .slice py1 Ay1 ky1, .slice pz1 Az1 kz1] 94)).1
   have hc2 := (MapKept.heap_alloc (w.alloc (.cells #[.int .i64 k, .string nm, .slice px1 Ax1 kx1, .slice py1 Ay1 ky1, .slice pz1 Az1 kz1] 94)) (.cells #[.int .i64 k', .string nm', .slice px2 Ax2 kx2, .slice py2 Ay2 ky2, .slice pz2 Az2 kz2] 94)).1
   have hbk := below_box (w.alloc (.cells #[.int .i64 k, .string nm, .slice px1 Ax1 kx1, .slice py1 Ay1 ky1, .slice pz1 Az1 kz1] 94)) (.cells #[.int .i64 k', .string nm', .slice px2 Ax2 kx2, .slice py2 Ay2 ky2, .slice pz2 Az2 kz2] 94)
   have hc1' := (hbk.block _ (Array.getElem?_eq_some_iff.1 hc1).1).trans hc1
   obtain ⟨B2, hB2⟩ : ∃ q, (w.alloc (.cells #[.int .i64 k, .string nm, .slice px1 Ax1 kx1, .slice py1 Ay1 ky1, .slice pz1 Az1 kz1] 94)).heap.size = q := ⟨_, rfl⟩
   have hB2' : B2 = w.heap.size + 1 := by rw [← hB2]; exact World.size_alloc _ _
   rw [hB2, hB2', ← hw2] at hc2
   rw [← hw2] at hc1'
   have HC1 := Lib.hid hc1'
   have HC2 := Lib.hid hc2
   have KX := Lib.hid (eqFuncE_of (equalExpr_any _) xs xs' px1 Ax1 kx1 px2 Ax2 kx2 w2 (Nat.le_refl _) hAx1 hAx2 (hx1.keep HB2.out) (hx2.keep HB2.out))
   have KY : Hid (∀ W, Below w.heap.size w W → Calls Tryz.prog 137 #[.slice py1 Ay1 ky1, .slice py2 Ay2 ky2, .func (.func 138) #[] #[]] W fun r w' => r = .returned (.bool (Sy.sameSs bs bs')) ∧ Below W.heap.size W w') := fun W hb => eqFuncS_of ih bs bs' py1 Ay1 ky1 py2 Ay2 ky2 W (by omega) hAy1 hAy2 (hy1.keep hb) (hy2.keep hb)
   have KZ : Hid (∀ W, Below w.heap.size w W → Calls Tryz.prog 137 #[.slice pz1 Az1 kz1, .slice pz2 Az2 kz2, .func (.func 138) #[] #[]] W fun r w' => r = .returned (.bool (Sy.sameSs ls ls')) ∧ Below W.heap.size W w') := fun W hb => eqFuncS_of ih ls ls' pz1 Az1 kz1 pz2 Az2 kz2 W (by omega) hAz1 hAz2 (hz1.keep hb) (hz2.keep hb)
   have HW2 := Lib.hid hw2
   unfold stmtV
   simp only [Tr.S.kind, Tr.S.name]
   have hsame : Sy.sameS (.mk k nm xs bs ls) (.mk k' nm' xs' bs' ls') = (decide (k = k') && decide (nm = nm') && Sy.sameEs xs xs' && Sy.sameSs bs bs' && Sy.sameSs ls ls') := by rw [Sy.sameS]
   rw [hsame]
   obtain ⟨qx, hqx⟩ : ∃ q, Sy.sameEs xs xs' = q := ⟨_, rfl⟩
   obtain ⟨qy, hqy⟩ : ∃ q, Sy.sameSs bs bs' = q := ⟨_, rfl⟩
   obtain ⟨qz, hqz⟩ : ∃ q, Sy.sameSs ls ls' = q := ⟨_, rfl⟩
   rw [hqx] at KX ⊢
   rw [hqy] at KY ⊢
   rw [hqz] at KZ ⊢
   clear hde hx1 hy1 hz1 hx2 hy2 hz2 hAx1 hAy1 hAz1 hAx2 hAy2 hAz2 hb1 hb2 hw2 hc1 hc2 hbk hc1' hB2 hB2' hd ih hsame hqx hqy hqz
   by_cases hk : k = k'
   ·subst hk
    by_cases hn : nm = nm'
    ·subst hn
     have HC12 := HC1
     have HC22 := HC2
     go_enter Tryz.func138, Tryz.ntmps138
     go_wp2_with fail
     rw [← HW2.out]
     refine KX.out.mono ?_
     rintro e' w3 ⟨rfl, hb⟩
     have HB3 := Lib.hid (HB2.out.trans (hb.mono HB2.out.size))
     have HC13 := Lib.hid ((hb.block _ (Array.getElem?_eq_some_iff.1 HC12.out).1).trans HC12.out)
     have HC23 := Lib.hid ((hb.block _ (Array.getElem?_eq_some_iff.1 HC22.out).1).trans HC22.out)
     clear hb
     clear HW2
     cases qx
     ·go_wp2_with fail
      go_ret
      exact ⟨by simp, HB3.out⟩
     ·have u1 := cell_of_blkP HC13.out (j := 3) (u := .slice py1 Ay1 ky1) rfl
      have u2 := cell_of_blkP HC23.out (j := 3) (u := .slice py2 Ay2 ky2) rfl
      go_wp2_with fail
      refine (KY.out _ HB3.out).mono ?_
      rintro e' w4 ⟨rfl, hb⟩
      have HB4 := Lib.hid (HB3.out.trans (hb.mono HB3.out.size))
      have HC14 := Lib.hid ((hb.block _ (Array.getElem?_eq_some_iff.1 HC13.out).1).trans HC13.out)
      have HC24 := Lib.hid ((hb.block _ (Array.getElem?_eq_some_iff.1 HC23.out).1).trans HC23.out)
      clear hb
      clear u1 u2
      cases qy
      ·go_wp2_with fail
       go_ret
       exact ⟨by simp, HB4.out⟩
      ·have u1 := cell_of_blkP HC14.out (j := 4) (u := .slice pz1 Az1 kz1) rfl
       have u2 := cell_of_blkP HC24.out (j := 4) (u := .slice pz2 Az2 kz2) rfl
       go_wp2_with fail
       refine (KZ.out _ HB4.out).mono ?_
       rintro e' w5 ⟨rfl, hb⟩
       have HB5 := Lib.hid (HB4.out.trans (hb.mono HB4.out.size))
       clear hb
       clear u1 u2
       go_wp2_with fail
       go_ret
       exact ⟨by simp, HB5.out⟩
    ·have hn2 := list_ne hn
     go_enter Tryz.func138, Tryz.ntmps138
     go_wp2_with fail
     rw [← HW2.out]
     go_ret
     exact ⟨by simp [hn], HB2.out⟩
   ·go_enter Tryz.func138, Tryz.ntmps138
    go_wp2_with fail
    rw [← HW2.out]
    go_ret
    exact ⟨by simp [hk], HB2.out⟩
end Go.Proofs.YtdckddkalgnlpaaGreatDoor
namespace Go.Proofs.YtdckddkalgnlpaaGreatDoor
open Go.RowKit Go.Maps
set_option maxRecDepth 100000 in
set_option maxHeartbeats 4000000 in
theorem strEq_any (l1 l2 : List ByteArray) (p1 : Option Addr) (N1 c1 : Nat) (p2 : Option Addr) (N2 c2 : Nat) (w : World) (hN1 : l1.length = N1) (hN2 : l2.length = N2) (h1 : SlStr w (.slice p1 N1 c1) l1) (h2 : SlStr w (.slice p2 N2 c2) l2) :
 Calls Tryz.prog 84 #[.slice p1 N1 c1, .slice p2 N2 c2] w fun r w' => r = .returned (.bool (decide (l1 = l2))) ∧ Below w.heap.size w w' := by
 have hn1 : N1 ≤ 9223372036854775807 := by
  have := h1.len
  rw [hN1] at this
  unfold maxLen at this
  exact this
 have hn2 : N2 ≤ 9223372036854775807 := by
  have := h2.len
  rw [hN2] at this
  unfold maxLen at this
  exact this
 by_cases hne : N1 = N2
 ·subst hne
  match l1, l2, hN1, hN2 with
  | [], [], hN1, _ =>
    obtain rfl : N1 = 0 := hN1.symm
    refine (Tryz.slices_Equal_string_empty p1 p2 c1 0 c2 w (by omega)).mono ?_
    rintro e w' ⟨rfl, rfl⟩
    exact ⟨by simp, Below.refl _ _⟩
  | x :: xs, y :: ys, hN1, hN2 =>
    obtain ⟨b1, o1, rfl, _, _⟩ := h1.get (j := 0) rfl
    obtain ⟨b2, o2, rfl, _, _⟩ := h2.get (j := 0) rfl
    have hg : ∀ (l : List ByteArray) (b o c : Nat) (N : Nat), SlStr w (.slice (some ⟨b, o, none⟩) N c) l → ∀ j, j < l.length → w.cell? ⟨b, o + j, none⟩ = some (.string (l.getD j ByteArray.empty)) := by
     intro l b o c N h j hj
     have e : l[j]? = some (l.getD j ByteArray.empty) := by rw [List.getD_eq_getElem?_getD, List.getElem?_eq_getElem hj]; rfl
     obtain ⟨b', o', e2, _, h3⟩ := h.get e
     simp only [Option.some.injEq, Addr.mk.injEq] at e2
     obtain ⟨rfl, rfl, _⟩ := e2
     exact h3
    refine (Tryz.slices_Equal_string b1 o1 N1 c1 b2 o2 N1 c2 (x :: xs) (y :: ys) w (by omega) (by omega) hn1 hn1 (hg _ _ _ _ _ h1) (hg _ _ _ _ _ h2)).mono ?_
    rintro e w' ⟨rfl, q, rfl⟩
    refine ⟨?_, below_drewN (Below.refl _ _) q⟩
    rw [List.take_of_length_le (by omega), List.take_of_length_le (by omega)]
  | [], y :: ys, hN1, hN2 => simp at hN1 hN2; omega
  | x :: xs, [], hN1, hN2 => simp at hN1 hN2; omega
 ·have hf : decide (l1 = l2) = false := by
   rw [decide_eq_false_iff_not]
   intro h
   exact hne (by rw [← hN1, ← hN2, h])
  rw [hf]
  clear hf h1 h2 hN1 hN2
  have hne2 : ¬ (N1 : Int) = (N2 : Int) := by omega
  go_enter Tryz.func84, Tryz.ntmps84
  go_wp2_with fail
  go_ret
  exact ⟨rfl, Below.refl _ _⟩
def EqMC : Prop := ∀ (x y : Tr.M) (x1 y1 x2 y2 : Value) (W : World), SlStr W x1 x.params → SlS W y1 x.body → SlStr W x2 y.params → SlS W y2 y.body →
 Calls Tryz.prog 86 #[methV x x1 y1, methV y x2 y2] W fun r w' => r = .returned (.bool (Sy.sameM x y)) ∧ Below W.heap.size W w'
set_option maxRecDepth 100000 in
set_option maxHeartbeats 4000000 in
theorem eqFuncM_of (hC : EqMC) (l1 l2 : List Tr.M) (p1 : Option Addr) (N1 c1 : Nat) (p2 : Option Addr) (N2 c2 : Nat) (w : World) (hN1 : l1.length = N1) (hN2 : l2.length = N2) (h1 : SlM w (.slice p1 N1 c1) l1) (h2 : SlM w (.slice p2 N2 c2) l2) :
 Calls Tryz.prog 85 #[.slice p1 N1 c1, .slice p2 N2 c2, .func (.func 86) #[] #[]] w fun r w' => r = .returned (.bool (Sy.sameMs l1 l2)) ∧ Below w.heap.size w w' := by
 have hn1 : N1 ≤ 9223372036854775807 := by
  have := h1.len
  rw [hN1] at this
  unfold maxLen at this
  exact this
 have hn2 : N2 ≤ 9223372036854775807 := by
  have := h2.len
  rw [hN2] at this
  unfold maxLen at this
  exact this
 have HC := Lib.hid hC
 have HN1 := Lib.hid hN1
 have HN2 := Lib.hid hN2
 have H1 := Lib.hid h1
 have H2 := Lib.hid h2
 clear hC hN1 hN2 h1 h2
 by_cases hne : N1 = N2
 ·subst hne
  go_enter Tryz.func85, Tryz.ntmps85
  go_wp2_with fail
  go_loopg [7, 8, 9, 17] N1 (fun g s7 s8 s9 s17 wr => ∃ j : Nat, s17 = .int .i64 j ∧ j ≤ N1 ∧ g = N1 - j ∧ Hid (l1.take j = l2.take j) ∧ Hid (Below w.heap.size w wr))
  case atStart => exact ⟨0, rfl, Nat.zero_le _, rfl, rfl, Below.refl _ _⟩
  case round =>
   obtain ⟨j, rfl, hj, rfl, HT, HB⟩ := hrel
   by_cases hlt : j < N1
   ·obtain ⟨x, hx⟩ : ∃ x, l1[j]? = some x := ⟨_, List.getElem?_eq_getElem (by rw [HN1.out]; exact hlt)⟩
    obtain ⟨y, hy⟩ : ∃ x, l2[j]? = some x := ⟨_, List.getElem?_eq_getElem (by rw [HN2.out]; exact hlt)⟩
    obtain ⟨b1, o1, vx1, vy1, rfl, _, hc1, _, hx1, hy1⟩ := H1.out.get hx
    obtain ⟨px1, kx1, hfx1⟩ : ∃ p c, vx1 = .slice p x.params.length c := by
     obtain ⟨p, c, e⟩ := hx1.form
     exact ⟨p, c, e⟩
    subst hfx1
    obtain ⟨Ax1, hAx1⟩ : ∃ q, x.params.length = q := ⟨_, rfl⟩
    rw [hAx1] at hx1 hc1
    clear hAx1
    obtain ⟨py1, ky1, hfy1⟩ : ∃ p c, vy1 = .slice p x.body.length c := by
     obtain ⟨p, c, e, _⟩ := hy1.form
     exact ⟨p, c, e⟩
    subst hfy1
    obtain ⟨Ay1, hAy1⟩ : ∃ q, x.body.length = q := ⟨_, rfl⟩
    rw [hAy1] at hy1 hc1
    clear hAy1
    obtain ⟨b2, o2, vx2, vy2, rfl, _, hc2, _, hx2, hy2⟩ := H2.out.get hy
    obtain ⟨px2, kx2, hfx2⟩ : ∃ p c, vx2 = .slice p y.params.length c := by
     obtain ⟨p, c, e⟩ := hx2.form
     exact ⟨p, c, e⟩
    subst hfx2
    obtain ⟨Ax2, hAx2⟩ : ∃ q, y.params.length = q := ⟨_, rfl⟩
    rw [hAx2] at hx2 hc2
    clear hAx2
    obtain ⟨py2, ky2, hfy2⟩ : ∃ p c, vy2 = .slice p y.body.length c := by
     obtain ⟨p, c, e, _⟩ := hy2.form
     exact ⟨p, c, e⟩
    subst hfy2
    obtain ⟨Ay2, hAy2⟩ : ∃ q, y.body.length = q := ⟨_, rfl⟩
    rw [hAy2] at hy2 hc2
    clear hAy2
    obtain ⟨x0, x1, x2⟩ := hc1
    have x0 := cell_keep' HB.out x0
    have x1 := cell_keep' HB.out x1
    have x2 := cell_keep' HB.out x2
    obtain ⟨y0, y1, y2⟩ := hc2
    have y0 := cell_keep' HB.out y0
    have y1 := cell_keep' HB.out y1
    have y2 := cell_keep' HB.out y2
    have hb4 := HB.out.alloc HB.out.size (.cells #[.string x.name, .slice px1 Ax1 kx1, .slice py1 Ay1 ky1] 64)
    have hb5 := hb4.alloc hb4.size (.cells #[.string y.name, .slice px2 Ax2 kx2, .slice py2 Ay2 ky2] 64)
    obtain ⟨w5, hw5⟩ : ∃ q, q = (wr.alloc (.cells #[.string x.name, .slice px1 Ax1 kx1, .slice py1 Ay1 ky1] 64)).alloc (.cells #[.string y.name, .slice px2 Ax2 kx2, .slice py2 Ay2 ky2] 64) := ⟨_, rfl⟩
    rw [← hw5] at hb5
    have hcall := HC.out x y _ _ _ _ w5 (hx1.keep hb5) (hy1.keep hb5) (hx2.keep hb5) (hy2.keep hb5)
    unfold methV at hcall
    have HW5 := Lib.hid hw5
    have HB5 := Lib.hid hb5
    have HX := Lib.hid hx
    have HY := Lib.hid hy
    have b3 : (j : Int) < (N1 : Int) := by omega
    have hl1 := cell_lt' x0
    have hl2 := cell_lt' y0
    obtain ⟨S, hSx⟩ : ∃ q, Sy.sameM x y = q := ⟨_, rfl⟩
    rw [hSx] at hcall
    have HSX := Lib.hid hSx
    have HCALL := Lib.hid hcall
    clear hx hy hx1 hy1 hx2 hy2 hb4 hb5 hw5 hcall hSx
    cases S
    ·go_wp2_with fail
     rw [← HW5.out]
     refine HCALL.out.mono ?_
     rintro e' w6 ⟨rfl, hb6⟩
     have HB6 := Lib.hid (HB5.out.trans (hb6.mono HB5.out.size))
     clear hb6 HW5 x0 x1 x2 y0 y1 y2 hl1 hl2
     go_wp2_with fail
     go_ret
     refine ⟨?_, HB6.out⟩
     rw [show Sy.sameMs l1 l2 = false by
      rw [Bool.eq_false_iff]
      intro h
      rw [Sy.sameMs_iff] at h
      have h3 := HX.out
      rw [h, HY.out] at h3
      have h4 := HSX.out
      rw [Option.some.inj h3, (Sy.sameM_iff x x).2 rfl] at h4
      cases h4]
     rfl
    ·go_wp2_with fail
     rw [← HW5.out]
     refine HCALL.out.mono ?_
     rintro e' w6 ⟨rfl, hb6⟩
     have HB6 := Lib.hid (HB5.out.trans (hb6.mono HB5.out.size))
     clear hb6 HW5 x0 x1 x2 y0 y1 y2 hl1 hl2
     go_wp2_with fail
     go_roundg (N1 - (j + 1))
     case measure => omega
     case rel => exact ⟨j + 1, by go_num, by omega, rfl, take_grow HT.out HX.out (by rw [HY.out, (Sy.sameM_iff x y).1 HSX.out]), HB6⟩
   ·obtain rfl : j = N1 := by omega
    go_wp2_with fail
    go_ret
    refine ⟨?_, HB.out⟩
    rw [(Sy.sameMs_iff l1 l2).2 (by have h := HT.out; rw [List.take_of_length_le (by rw [HN1.out]; exact Nat.le_refl _), List.take_of_length_le (by rw [HN2.out]; exact Nat.le_refl _)] at h; exact h)]
    rfl
 ·have hf : Sy.sameMs l1 l2 = false := by
   rw [Bool.eq_false_iff]
   intro h
   rw [Sy.sameMs_iff] at h
   exact hne (by rw [← HN1.out, ← HN2.out, h])
  rw [hf]
  clear hf
  have hne2 : ¬ (N1 : Int) = (N2 : Int) := by omega
  go_enter Tryz.func85, Tryz.ntmps85
  go_wp2_with fail
  go_ret
  exact ⟨rfl, Below.refl _ _⟩
end Go.Proofs.YtdckddkalgnlpaaGreatDoor
namespace Go.Proofs.YtdckddkalgnlpaaGreatDoor
open Go.RowKit Go.Maps
set_option maxRecDepth 100000 in
set_option maxHeartbeats 4000000 in
theorem equalMethod_any : EqMC := by
 intro x y vx1 vy1 vx2 vy2 w hx1 hy1 hx2 hy2
 obtain ⟨nm, xs, bs⟩ := x
 obtain ⟨nm', xs', bs'⟩ := y
 have hx1 : SlStr w vx1 xs := hx1
 have hy1 : SlS w vy1 bs := hy1
 have hx2 : SlStr w vx2 xs' := hx2
 have hy2 : SlS w vy2 bs' := hy2
 obtain ⟨px1, kx1, rfl⟩ := hx1.form
 obtain ⟨Ax1, hAx1⟩ : ∃ q, xs.length = q := ⟨_, rfl⟩
 rw [hAx1] at hx1 ⊢
 obtain ⟨py1, ky1, rfl, _⟩ := hy1.form
 obtain ⟨Ay1, hAy1⟩ : ∃ q, bs.length = q := ⟨_, rfl⟩
 rw [hAy1] at hy1 ⊢
 obtain ⟨px2, kx2, rfl⟩ := hx2.form
 obtain ⟨Ax2, hAx2⟩ : ∃ q, xs'.length = q := ⟨_, rfl⟩
 rw [hAx2] at hx2 ⊢
 obtain ⟨py2, ky2, rfl, _⟩ := hy2.form
 obtain ⟨Ay2, hAy2⟩ : ∃ q, bs'.length = q := ⟨_, rfl⟩
 rw [hAy2] at hy2 ⊢
 have hb1 := below_box w (.cells #[.string nm, .slice px1 Ax1 kx1, .slice py1 Ay1 ky1] 64)
 have hb2 := hb1.alloc hb1.size (.cells #[.string nm', .slice px2 Ax2 kx2, .slice py2 Ay2 ky2] 64)
 obtain ⟨w2, hw2⟩ : ∃ q, q = (w.alloc (.cells #[.string nm, .slice px1 Ax1 kx1, .slice py1 Ay1 ky1] 64)).alloc (.cells #[.string nm', .slice px2 Ax2 kx2, .slice py2 Ay2 ky2] 64) := ⟨_, rfl⟩
 have HB2 : Hid (Below w.heap.size w w2) := by rw [hw2]; exact hb2
 have hc1 := (MapKept.heap_alloc w (.cells #[.string nm, .slice px1 Ax1 kx1, .slice py1 Ay1 ky1] 64)).1
 have hc2 := (MapKept.heap_alloc (w.alloc (.cells #[.string nm, .slice px1 Ax1 kx1, .slice py1 Ay1 ky1] 64)) (.cells #[.string nm', .slice px2 Ax2 kx2, .slice py2 Ay2 ky2] 64)).1
 have hbk := below_box (w.alloc (.cells #[.string nm, .slice px1 Ax1 kx1, .slice py1 Ay1 ky1] 64)) (.cells #[.string nm', .slice px2 Ax2 kx2, .slice py2 Ay2 ky2] 64)
 have hc1' := (hbk.block _ (Array.getElem?_eq_some_iff.1 hc1).1).trans hc1
 obtain ⟨B2, hB2⟩ : ∃ q, (w.alloc (.cells #[.string nm, .slice px1 Ax1 kx1, .slice py1 Ay1 ky1] 64)).heap.size = q := ⟨_, rfl⟩
 have hB2' : B2 = w.heap.size + 1 := by rw [← hB2]; exact World.size_alloc _ _
 rw [hB2, hB2', ← hw2] at hc2
 rw [← hw2] at hc1'
 have HC1 := Lib.hid hc1'
 have HC2 := Lib.hid hc2
 have KX := Lib.hid (strEq_any xs xs' px1 Ax1 kx1 px2 Ax2 kx2 w2 hAx1 hAx2 (hx1.keep HB2.out) (hx2.keep HB2.out))
 have KY : Hid (∀ W, Below w.heap.size w W → Calls Tryz.prog 137 #[.slice py1 Ay1 ky1, .slice py2 Ay2 ky2, .func (.func 138) #[] #[]] W fun r w' => r = .returned (.bool (Sy.sameSs bs bs')) ∧ Below W.heap.size W w') := fun W hb => eqFuncS_of (equalStmt_any _) bs bs' py1 Ay1 ky1 py2 Ay2 ky2 W (Nat.le_refl _) hAy1 hAy2 (hy1.keep hb) (hy2.keep hb)
 have HW2 := Lib.hid hw2
 unfold methV
 have hsame : Sy.sameM (.mk nm xs bs) (.mk nm' xs' bs') = (decide (nm = nm') && decide (xs = xs') && Sy.sameSs bs bs') := rfl
 rw [hsame]
 obtain ⟨qx, hqx⟩ : ∃ q, decide (xs = xs') = q := ⟨_, rfl⟩
 obtain ⟨qy, hqy⟩ : ∃ q, Sy.sameSs bs bs' = q := ⟨_, rfl⟩
 rw [hqx] at KX ⊢
 rw [hqy] at KY ⊢
 clear hx1 hy1 hx2 hy2 hAx1 hAy1 hAx2 hAy2 hb1 hb2 hw2 hc1 hc2 hbk hc1' hB2 hB2' hsame hqx hqy
 by_cases hn : nm = nm'
 ·subst hn
  have HC12 := HC1
  have HC22 := HC2
  go_enter Tryz.func86, Tryz.ntmps86
  go_wp2_with fail
  rw [← HW2.out]
  refine KX.out.mono ?_
  rintro e' w3 ⟨rfl, hb⟩
  have HB3 := Lib.hid (HB2.out.trans (hb.mono HB2.out.size))
  have HC13 := Lib.hid ((hb.block _ (Array.getElem?_eq_some_iff.1 HC12.out).1).trans HC12.out)
  have HC23 := Lib.hid ((hb.block _ (Array.getElem?_eq_some_iff.1 HC22.out).1).trans HC22.out)
  clear hb
  clear HW2
  cases qx
  ·go_wp2_with fail
   go_ret
   exact ⟨by simp, HB3.out⟩
  ·have u1 := cell_of_blkP HC13.out (j := 2) (u := .slice py1 Ay1 ky1) rfl
   have u2 := cell_of_blkP HC23.out (j := 2) (u := .slice py2 Ay2 ky2) rfl
   go_wp2_with fail
   refine (KY.out _ HB3.out).mono ?_
   rintro e' w4 ⟨rfl, hb⟩
   have HB4 := Lib.hid (HB3.out.trans (hb.mono HB3.out.size))
   clear hb
   clear u1 u2
   go_wp2_with fail
   go_ret
   exact ⟨by simp, HB4.out⟩
 ·have hn2 := list_ne hn
  go_enter Tryz.func86, Tryz.ntmps86
  go_wp2_with fail
  rw [← HW2.out]
  go_ret
  exact ⟨by simp, HB2.out⟩
end Go.Proofs.YtdckddkalgnlpaaGreatDoor
namespace Go.Proofs.YtdckddkalgnlpaaGreatDoor
open Go.RowKit Go.Maps
def EqCC : Prop := ∀ (x y : Tr.C) (x1 y1 x2 y2 : Value) (W : World), SlStr W x1 x.fields → SlM W y1 x.methods → SlStr W x2 y.fields → SlM W y2 y.methods →
 Calls Tryz.prog 41 #[classV x x1 y1, classV y x2 y2] W fun r w' => r = .returned (.bool (Sy.sameC x y)) ∧ Below W.heap.size W w'
set_option maxRecDepth 100000 in
set_option maxHeartbeats 4000000 in
theorem eqFuncC_of (hC : EqCC) (l1 l2 : List Tr.C) (p1 : Option Addr) (N1 c1 : Nat) (p2 : Option Addr) (N2 c2 : Nat) (w : World) (hN1 : l1.length = N1) (hN2 : l2.length = N2) (h1 : SlC w (.slice p1 N1 c1) l1) (h2 : SlC w (.slice p2 N2 c2) l2) :
 Calls Tryz.prog 40 #[.slice p1 N1 c1, .slice p2 N2 c2, .func (.func 41) #[] #[]] w fun r w' => r = .returned (.bool (Sy.sameCs l1 l2)) ∧ Below w.heap.size w w' := by
 have hn1 : N1 ≤ 9223372036854775807 := by
  have := h1.len
  rw [hN1] at this
  unfold maxLen at this
  exact this
 have hn2 : N2 ≤ 9223372036854775807 := by
  have := h2.len
  rw [hN2] at this
  unfold maxLen at this
  exact this
 have HC := Lib.hid hC
 have HN1 := Lib.hid hN1
 have HN2 := Lib.hid hN2
 have H1 := Lib.hid h1
 have H2 := Lib.hid h2
 clear hC hN1 hN2 h1 h2
 by_cases hne : N1 = N2
 ·subst hne
  go_enter Tryz.func40, Tryz.ntmps40
  go_wp2_with fail
  go_loopg [7, 8, 9, 17] N1 (fun g s7 s8 s9 s17 wr => ∃ j : Nat, s17 = .int .i64 j ∧ j ≤ N1 ∧ g = N1 - j ∧ Hid (l1.take j = l2.take j) ∧ Hid (Below w.heap.size w wr))
  case atStart => exact ⟨0, rfl, Nat.zero_le _, rfl, rfl, Below.refl _ _⟩
  case round =>
   obtain ⟨j, rfl, hj, rfl, HT, HB⟩ := hrel
   by_cases hlt : j < N1
   ·obtain ⟨x, hx⟩ : ∃ x, l1[j]? = some x := ⟨_, List.getElem?_eq_getElem (by rw [HN1.out]; exact hlt)⟩
    obtain ⟨y, hy⟩ : ∃ x, l2[j]? = some x := ⟨_, List.getElem?_eq_getElem (by rw [HN2.out]; exact hlt)⟩
    obtain ⟨b1, o1, vx1, vy1, rfl, _, hc1, _, hx1, hy1⟩ := H1.out.get hx
    obtain ⟨px1, kx1, hfx1⟩ : ∃ p c, vx1 = .slice p x.fields.length c := by
     obtain ⟨p, c, e⟩ := hx1.form
     exact ⟨p, c, e⟩
    subst hfx1
    obtain ⟨Ax1, hAx1⟩ : ∃ q, x.fields.length = q := ⟨_, rfl⟩
    rw [hAx1] at hx1 hc1
    clear hAx1
    obtain ⟨py1, ky1, hfy1⟩ : ∃ p c, vy1 = .slice p x.methods.length c := by
     obtain ⟨p, c, e⟩ := hy1.form
     exact ⟨p, c, e⟩
    subst hfy1
    obtain ⟨Ay1, hAy1⟩ : ∃ q, x.methods.length = q := ⟨_, rfl⟩
    rw [hAy1] at hy1 hc1
    clear hAy1
    obtain ⟨b2, o2, vx2, vy2, rfl, _, hc2, _, hx2, hy2⟩ := H2.out.get hy
    obtain ⟨px2, kx2, hfx2⟩ : ∃ p c, vx2 = .slice p y.fields.length c := by
     obtain ⟨p, c, e⟩ := hx2.form
     exact ⟨p, c, e⟩
    subst hfx2
    obtain ⟨Ax2, hAx2⟩ : ∃ q, y.fields.length = q := ⟨_, rfl⟩
    rw [hAx2] at hx2 hc2
    clear hAx2
    obtain ⟨py2, ky2, hfy2⟩ : ∃ p c, vy2 = .slice p y.methods.length c := by
     obtain ⟨p, c, e⟩ := hy2.form
     exact ⟨p, c, e⟩
    subst hfy2
    obtain ⟨Ay2, hAy2⟩ : ∃ q, y.methods.length = q := ⟨_, rfl⟩
    rw [hAy2] at hy2 hc2
    clear hAy2
    obtain ⟨x0, x1, x2, x3⟩ := hc1
    have x0 := cell_keep' HB.out x0
    have x1 := cell_keep' HB.out x1
    have x2 := cell_keep' HB.out x2
    have x3 := cell_keep' HB.out x3
    obtain ⟨y0, y1, y2, y3⟩ := hc2
    have y0 := cell_keep' HB.out y0
    have y1 := cell_keep' HB.out y1
    have y2 := cell_keep' HB.out y2
    have y3 := cell_keep' HB.out y3
    have hb4 := HB.out.alloc HB.out.size (.cells #[.string x.name, .bool x.actor, .slice px1 Ax1 kx1, .slice py1 Ay1 ky1] 49)
    have hb5 := hb4.alloc hb4.size (.cells #[.string y.name, .bool y.actor, .slice px2 Ax2 kx2, .slice py2 Ay2 ky2] 49)
    obtain ⟨w5, hw5⟩ : ∃ q, q = (wr.alloc (.cells #[.string x.name, .bool x.actor, .slice px1 Ax1 kx1, .slice py1 Ay1 ky1] 49)).alloc (.cells #[.string y.name, .bool y.actor, .slice px2 Ax2 kx2, .slice py2 Ay2 ky2] 49) := ⟨_, rfl⟩
    rw [← hw5] at hb5
    have hcall := HC.out x y _ _ _ _ w5 (hx1.keep hb5) (hy1.keep hb5) (hx2.keep hb5) (hy2.keep hb5)
    unfold classV at hcall
    have HW5 := Lib.hid hw5
    have HB5 := Lib.hid hb5
    have HX := Lib.hid hx
    have HY := Lib.hid hy
    have b3 : (j : Int) < (N1 : Int) := by omega
    have hl1 := cell_lt' x0
    have hl2 := cell_lt' y0
    obtain ⟨S, hSx⟩ : ∃ q, Sy.sameC x y = q := ⟨_, rfl⟩
    rw [hSx] at hcall
    have HSX := Lib.hid hSx
    have HCALL := Lib.hid hcall
    clear hx hy hx1 hy1 hx2 hy2 hb4 hb5 hw5 hcall hSx
    cases S
    ·go_wp2_with fail
     rw [← HW5.out]
     refine HCALL.out.mono ?_
     rintro e' w6 ⟨rfl, hb6⟩
     have HB6 := Lib.hid (HB5.out.trans (hb6.mono HB5.out.size))
     clear hb6 HW5 x0 x1 x2 x3 y0 y1 y2 y3 hl1 hl2
     go_wp2_with fail
     go_ret
     refine ⟨?_, HB6.out⟩
     rw [show Sy.sameCs l1 l2 = false by
      rw [Bool.eq_false_iff]
      intro h
      rw [Sy.sameCs_iff] at h
      have h3 := HX.out
      rw [h, HY.out] at h3
      have h4 := HSX.out
      rw [Option.some.inj h3, (Sy.sameC_iff x x).2 rfl] at h4
      cases h4]
     rfl
    ·go_wp2_with fail
     rw [← HW5.out]
     refine HCALL.out.mono ?_
     rintro e' w6 ⟨rfl, hb6⟩
     have HB6 := Lib.hid (HB5.out.trans (hb6.mono HB5.out.size))
     clear hb6 HW5 x0 x1 x2 x3 y0 y1 y2 y3 hl1 hl2
     go_wp2_with fail
     go_roundg (N1 - (j + 1))
     case measure => omega
     case rel => exact ⟨j + 1, by go_num, by omega, rfl, take_grow HT.out HX.out (by rw [HY.out, (Sy.sameC_iff x y).1 HSX.out]), HB6⟩
   ·obtain rfl : j = N1 := by omega
    go_wp2_with fail
    go_ret
    refine ⟨?_, HB.out⟩
    rw [(Sy.sameCs_iff l1 l2).2 (by have h := HT.out; rw [List.take_of_length_le (by rw [HN1.out]; exact Nat.le_refl _), List.take_of_length_le (by rw [HN2.out]; exact Nat.le_refl _)] at h; exact h)]
    rfl
 ·have hf : Sy.sameCs l1 l2 = false := by
   rw [Bool.eq_false_iff]
   intro h
   rw [Sy.sameCs_iff] at h
   exact hne (by rw [← HN1.out, ← HN2.out, h])
  rw [hf]
  clear hf
  have hne2 : ¬ (N1 : Int) = (N2 : Int) := by omega
  go_enter Tryz.func40, Tryz.ntmps40
  go_wp2_with fail
  go_ret
  exact ⟨rfl, Below.refl _ _⟩
end Go.Proofs.YtdckddkalgnlpaaGreatDoor
namespace Go.Proofs.YtdckddkalgnlpaaGreatDoor
open Go.RowKit Go.Maps
set_option maxRecDepth 100000 in
set_option maxHeartbeats 4000000 in
theorem equalClass_any : EqCC := by
 intro x y vx1 vy1 vx2 vy2 w hx1 hy1 hx2 hy2
 obtain ⟨nm, a, xs, bs⟩ := x
 obtain ⟨nm', a', xs', bs'⟩ := y
 have hx1 : SlStr w vx1 xs := hx1
 have hy1 : SlM w vy1 bs := hy1
 have hx2 : SlStr w vx2 xs' := hx2
 have hy2 : SlM w vy2 bs' := hy2
 obtain ⟨px1, kx1, rfl⟩ := hx1.form
 obtain ⟨Ax1, hAx1⟩ : ∃ q, xs.length = q := ⟨_, rfl⟩
 rw [hAx1] at hx1 ⊢
 obtain ⟨py1, ky1, rfl⟩ := hy1.form
 obtain ⟨Ay1, hAy1⟩ : ∃ q, bs.length = q := ⟨_, rfl⟩
 rw [hAy1] at hy1 ⊢
 obtain ⟨px2, kx2, rfl⟩ := hx2.form
 obtain ⟨Ax2, hAx2⟩ : ∃ q, xs'.length = q := ⟨_, rfl⟩
 rw [hAx2] at hx2 ⊢
 obtain ⟨py2, ky2, rfl⟩ := hy2.form
 obtain ⟨Ay2, hAy2⟩ : ∃ q, bs'.length = q := ⟨_, rfl⟩
 rw [hAy2] at hy2 ⊢
 have hb1 := below_box w (.cells #[.string nm, .bool a, .slice px1 Ax1 kx1, .slice py1 Ay1 ky1] 49)
 have hb2 := hb1.alloc hb1.size (.cells #[.string nm', .bool a', .slice px2 Ax2 kx2, .slice py2 Ay2 ky2] 49)
 obtain ⟨w2, hw2⟩ : ∃ q, q = (w.alloc (.cells #[.string nm, .bool a, .slice px1 Ax1 kx1, .slice py1 Ay1 ky1] 49)).alloc (.cells #[.string nm', .bool a', .slice px2 Ax2 kx2, .slice py2 Ay2 ky2] 49) := ⟨_, rfl⟩
 have HB2 : Hid (Below w.heap.size w w2) := by rw [hw2]; exact hb2
 have hc1 := (MapKept.heap_alloc w (.cells #[.string nm, .bool a, .slice px1 Ax1 kx1, .slice py1 Ay1 ky1] 49)).1
 have hc2 := (MapKept.heap_alloc (w.alloc (.cells #[.string nm, .bool a, .slice px1 Ax1 kx1, .slice py1 Ay1 ky1] 49)) (.cells #[.string nm', .bool a', .slice px2 Ax2 kx2, .slice py2 Ay2 ky2] 49)).1
 have hbk := below_box (w.alloc (.cells #[.string nm, .bool a, .slice px1 Ax1 kx1, .slice py1 Ay1 ky1] 49)) (.cells #[.string nm', .bool a', .slice px2 Ax2 kx2, .slice py2 Ay2 ky2] 49)
 have hc1' := (hbk.block _ (Array.getElem?_eq_some_iff.1 hc1).1).trans hc1
 obtain ⟨B2, hB2⟩ : ∃ q, (w.alloc (.cells #[.string nm, .bool a, .slice px1 Ax1 kx1, .slice py1 Ay1 ky1] 49)).heap.size = q := ⟨_, rfl⟩
 have hB2' : B2 = w.heap.size + 1 := by rw [← hB2]; exact World.size_alloc _ _
 rw [hB2, hB2', ← hw2] at hc2
 rw [← hw2] at hc1'
 have HC1 := Lib.hid hc1'
 have HC2 := Lib.hid hc2
 have KX := Lib.hid (strEq_any xs xs' px1 Ax1 kx1 px2 Ax2 kx2 w2 hAx1 hAx2 (hx1.keep HB2.out) (hx2.keep HB2.out))
 have KY : Hid (∀ W, Below w.heap.size w W → Calls Tryz.prog 85 #[.slice py1 Ay1 ky1, .slice py2 Ay2 ky2, .func (.func 86) #[] #[]] W fun r w' => r = .returned (.bool (Sy.sameMs bs bs')) ∧ Below W.heap.size W w') := fun W hb => eqFuncM_of equalMethod_any bs bs' py1 Ay1 ky1 py2 Ay2 ky2 W hAy1 hAy2 (hy1.keep hb) (hy2.keep hb)
 have HW2 := Lib.hid hw2
 unfold classV
 have hsame : Sy.sameC (.mk nm a xs bs) (.mk nm' a' xs' bs') = (decide (nm = nm') && decide (a = a') && decide (xs = xs') && Sy.sameMs bs bs') := rfl
 rw [hsame]
 obtain ⟨qx, hqx⟩ : ∃ q, decide (xs = xs') = q := ⟨_, rfl⟩
 obtain ⟨qy, hqy⟩ : ∃ q, Sy.sameMs bs bs' = q := ⟨_, rfl⟩
 rw [hqx] at KX ⊢
 rw [hqy] at KY ⊢
 clear hx1 hy1 hx2 hy2 hAx1 hAy1 hAx2 hAy2 hb1 hb2 hw2 hc1 hc2 hbk hc1' hB2 hB2' hsame hqx hqy
 by_cases hn : nm = nm'
 ·subst hn
  by_cases ha : a = a'
  ·subst ha
   have HC12 := HC1
   have HC22 := HC2
   go_enter Tryz.func41, Tryz.ntmps41
   go_wp2_with fail
   rw [← HW2.out]
   refine KX.out.mono ?_
   rintro e' w3 ⟨rfl, hb⟩
   have HB3 := Lib.hid (HB2.out.trans (hb.mono HB2.out.size))
   have HC13 := Lib.hid ((hb.block _ (Array.getElem?_eq_some_iff.1 HC12.out).1).trans HC12.out)
   have HC23 := Lib.hid ((hb.block _ (Array.getElem?_eq_some_iff.1 HC22.out).1).trans HC22.out)
   clear hb
   clear HW2
   cases qx
   ·go_wp2_with fail
    go_ret
    exact ⟨by simp, HB3.out⟩
   ·have u1 := cell_of_blkP HC13.out (j := 3) (u := .slice py1 Ay1 ky1) rfl
    have u2 := cell_of_blkP HC23.out (j := 3) (u := .slice py2 Ay2 ky2) rfl
    go_wp2_with fail
    refine (KY.out _ HB3.out).mono ?_
    rintro e' w4 ⟨rfl, hb⟩
    have HB4 := Lib.hid (HB3.out.trans (hb.mono HB3.out.size))
    clear hb
    clear u1 u2
    go_wp2_with fail
    go_ret
    exact ⟨by simp, HB4.out⟩
  ·go_enter Tryz.func41, Tryz.ntmps41
   go_wp2_with fail
   rw [← HW2.out]
   go_ret
   exact ⟨by simp, HB2.out⟩
 ·have hn2 := list_ne hn
  go_enter Tryz.func41, Tryz.ntmps41
  go_wp2_with fail
  rw [← HW2.out]
  go_ret
  exact ⟨by simp, HB2.out⟩
set_option maxRecDepth 100000 in
set_option maxHeartbeats 4000000 in
theorem equal_any (l1 l2 : List Tr.C) (v1 v2 : Value) (w : World) (h1 : SlC w v1 l1) (h2 : SlC w v2 l2) :
 Calls Tryz.prog 17 #[.agg #[v1], .agg #[v2]] w fun r w' => r = .returned (.bool (Sy.sameCs l1 l2)) ∧ Below w.heap.size w w' := by
 obtain ⟨p1, c1, rfl⟩ := h1.form
 obtain ⟨p2, c2, rfl⟩ := h2.form
 obtain ⟨N1, hN1⟩ : ∃ q, l1.length = q := ⟨_, rfl⟩
 obtain ⟨N2, hN2⟩ : ∃ q, l2.length = q := ⟨_, rfl⟩
 rw [hN1] at h1 ⊢
 rw [hN2] at h2 ⊢
 have hb1 := below_box w (.cells #[.slice p1 N1 c1] 25)
 have hb2 := hb1.alloc hb1.size (.cells #[.slice p2 N2 c2] 25)
 obtain ⟨w2, hw2⟩ : ∃ q, q = (w.alloc (.cells #[.slice p1 N1 c1] 25)).alloc (.cells #[.slice p2 N2 c2] 25) := ⟨_, rfl⟩
 rw [← hw2] at hb2
 have K := Lib.hid (eqFuncC_of equalClass_any l1 l2 p1 N1 c1 p2 N2 c2 w2 hN1 hN2 (h1.keep hb2) (h2.keep hb2))
 have HB2 := Lib.hid hb2
 have HW2 := Lib.hid hw2
 clear h1 h2 hN1 hN2 hb1 hb2 hw2
 go_enter Tryz.func17, Tryz.ntmps17
 go_wp2_with fail
 rw [← HW2.out]
 refine K.out.mono ?_
 rintro e' w3 ⟨rfl, hb⟩
 have HB3 := Lib.hid (HB2.out.trans (hb.mono HB2.out.size))
 clear hb HW2
 go_wp2_with fail
 go_ret
 exact ⟨rfl, HB3.out⟩
end Go.Proofs.YtdckddkalgnlpaaGreatDoor
namespace Go.Proofs.YtdckddkalgnlpaaGreatDoor
open Go.RowKit Go.Maps Pw
theorem slC_nil (w : World) (p : Option Addr) (c : Nat) : SlC w (.slice p 0 c) [] := ⟨p, c, rfl, Nat.zero_le _, fun h => absurd rfl h, fun j n hj => by simp at hj⟩
theorem topP_po {s : ByteArray} {w w' : World} {e : Ending} (h : TopP s w e w') : Below w.heap.size w w' ∧ ∃ (x : List Tr.C) (p : Option Addr) (N c o er : Nat), e = .returned (.tuple #[.agg #[.slice p N c], .int .i64 o, .int .i64 er]) ∧ Hid (SlC w' (.slice p N c) x) ∧ Hid (Pa.PO s.data.toList x o er) := by
 obtain ⟨hb, ⟨a, er, h1, h2⟩ | ⟨ts, x, v, h1, h2, h3, h4, h5⟩ | ⟨ts, x, h1, h2, h3, h4⟩ | ⟨ts, k, t, h1, h2, hk, ht, h4⟩⟩ := h
 ·exact ⟨hb, [], none, 0, 0, a, er, h2, Lib.hid (slC_nil _ none 0), Lib.hid (.inl ⟨h1, rfl⟩)⟩
 ·obtain ⟨p, c, rfl⟩ := h5.form
  exact ⟨hb, x, p, _, c, 0, 0, h4, Lib.hid h5, Lib.hid (.inr (.inl ⟨ts, h1, h2, h3, rfl, rfl⟩))⟩
 ·exact ⟨hb, [], none, 0, 0, 0, 8, h4, Lib.hid (slC_nil _ none 0), Lib.hid (.inr (.inr (.inl ⟨ts, x, h1, h2, h3, rfl, rfl, rfl⟩)))⟩
 ·exact ⟨hb, [], none, 0, 0, t.pos, 3, h4, Lib.hid (slC_nil _ none 0), Lib.hid (.inr (.inr (.inr ⟨ts, k, t, h1, h2, hk, ht, rfl, rfl, rfl⟩)))⟩
structure JR (w6 : World) (tr : List CT) (v : Value) (W : World) : Prop where
 be : Below w6.heap.size w6 W
 own : W.ownsRow w6.heap.size 49 4 v tr.length (flatV cCells tr)
section
variable {w6 W : World} {tr : List CT} {v : Value}
theorem JR.ne (h : JR w6 tr v W) {B : Nat} {cs : Array Value} (hB : W.heap[B]? = some (.cells cs 25 (0, 0))) : v.ownBlock ≠ some B := fun e => by
 obtain ⟨_, cur, h2⟩ := own_ge h.own e
 rw [hB] at h2
 injection h2 with h2
 injection h2 with _ h3 _
 exact absurd h3 (by decide)
theorem JR.step (h : JR w6 tr v W) {l : List CT} {v2 : Value} (hsrc : SrcAt w6 cCells v2 l) (hrd : ∀ x ∈ l, ReadC w6 x.1 x.2.1 x.2.2) (hlen : tr.length + l.length ≤ 1000000) {ops : Array Oper} {E : Prop} {o : Oper} {a : Act} {K : Act → World → Prop} {Q : Exit → Act → World → Prop} (hgd : o.guard = none) (s x : Operand)
 (ho : o.op = .call { callee := .builtin .append, args := #[s, x], argTypes := #[23, 23] }) (hs : a.eval s = v) (hx : a.eval x = v2)
 (hk : ∀ (p : Option Addr) (N c : Nat) (W' : World), Hid ((tr ++ l).length = N) → Hid (JR w6 (tr ++ l) (.slice p N c) W') → Hid (∀ (B : Nat) (cs : Array Value), W.heap[B]? = some (.cells cs 25 (0, 0)) → W'.heap[B]? = some (.cells cs 25 (0, 0))) → K (a.put o.dst (.slice p N c)) W') : if Region.wanted o (yielded ops a.tmps) = true then Oper.wp Tryz.prog o a W K Q else E := by
 have hw : Region.wanted o (yielded ops a.tmps) = true := by simp [Region.wanted, hgd]
 rw [if_pos hw]
 obtain ⟨i, z, hi, hz, hs1, hb1, hc⟩ := tkC.inf
 have hsrc2 : SrcAt W cCells v2 l := by
  rcases hsrc with h1 | ⟨b, q, c, e, h1⟩
  ·exact .inl h1
  ·exact .inr ⟨b, q, c, e, fun j u hj => cell_keep' h.be (h1 j u hj)⟩
 have hm : (tr.length + l.length) * i.bytes ≤ 140737488355328 := Nat.le_trans (Nat.mul_le_mul hlen hb1) (by decide)
 refine wp_append_src cCells 4 cCells_len s x _ ho w6.heap.size 49 i z i.bytes tkC.und hi hz hs1 rfl hc (by decide) v v2 tr l hs hx h.own hsrc2 (cCells_one hrd) (by unfold maxLen; omega) hm h.be.size ?_
 intro v' W' h1 h2
 obtain ⟨p, c, rfl⟩ := own_form h1
 exact hk p _ c W' (Lib.hid rfl) (Lib.hid ⟨h.be.grown h2 h.be.size (fun q hq => (own_ge h.own hq).1), h1⟩) (Lib.hid fun B cs hB => gr_at h2 hB (fun e => h.ne hB e.symm))
theorem JR.store (h : JR w6 tr v W) {B : Nat} {cs : Array Value} (hB : W.heap[B]? = some (.cells cs 25 (0, 0))) (hb : w6.heap.size ≤ B) (j : Nat) (u : Value) : JR w6 tr v (W.setCell ⟨B, j, none⟩ u) := by
 refine ⟨h.be.setCell hb u, h.own.1, ?_⟩
 rcases h.own.2 with hn | ⟨g, cap, cur, rfl, hg0, hg, rest⟩
 ·exact .inl hn
 ·exact .inr ⟨g, cap, cur, rfl, hg0, gr_at (gr_set W B j u) hg (fun e => h.ne hB (by rw [← e]; rfl)), rest⟩
end
end Go.Proofs.YtdckddkalgnlpaaGreatDoor
namespace Go.Proofs.YtdckddkalgnlpaaGreatDoor
open Go.RowKit
theorem wordc_cases {c : UInt8} (h : Lex.wordc c = true) : (97 ≤ (c.toNat : Int) ∧ (c.toNat : Int) ≤ 122) ∨ (65 ≤ (c.toNat : Int) ∧ (c.toNat : Int) ≤ 90) ∨ (48 ≤ (c.toNat : Int) ∧ (c.toNat : Int) ≤ 57) ∨ (c.toNat : Int) = 95 := by
 unfold Lex.wordc Lex.letter Lex.digit at h
 simp only [Bool.or_eq_true, decide_eq_true_eq] at h
 omega
end Go.Proofs.YtdckddkalgnlpaaGreatDoor
