/-
  The reference's equality of statements: SameStmts, walked.
-/
import Derived.Test.YtdckddkalgnlpaaGreatDoorA11
import Derived.Test.YtdckddkalgnlpaaGreatDoorA14
namespace Go.Proofs.YtdckddkalgnlpaaGreatDoor
open Go.RowKit Go.Maps
theorem sameS_parts (x y : Tr.S) : Sy.sameS x y = (decide (x.kind = y.kind) && decide (x.name = y.name) && Sy.sameEs x.exprs y.exprs && Sy.sameSs x.body y.body && Sy.sameSs x.els y.els) := by
 obtain ⟨k, nm, xs, bs, ls⟩ := x
 obtain ⟨k', nm', xs', bs', ls'⟩ := y
 rw [Sy.sameS]
 rfl
set_option maxRecDepth 100000 in
set_option maxHeartbeats 4000000 in
theorem refSameSs_any : ∀ (d : Nat) (l1 l2 : List Tr.S) (p1 : Option Addr) (N1 c1 : Nat) (p2 : Option Addr) (N2 c2 : Nat) (w : World), Tr.S.deep.deeps l1 ≤ d → l1.length = N1 → l2.length = N2 → SlS w (.slice p1 N1 c1) l1 → SlS w (.slice p2 N2 c2) l2 →
 Calls Tryz.prog 31 #[.slice p1 N1 c1, .slice p2 N2 c2] w fun r w' => r = .returned (.bool (Sy.sameSs l1 l2)) ∧ Below w.heap.size w w' := by
 intro d
 induction d using Nat.strongRecOn
 rename_i d hC
 intro l1 l2 p1 N1 c1 p2 N2 c2 w hd hN1 hN2 h1 h2
 have hn1 : N1 ≤ 9223372036854775807 := by
  have := h1.len
  rw [hN1] at this
  unfold maxLen at this
  exact this
 have hn2 : N2 ≤ 9223372036854775807 := by
  have := h2.len
  rw [hN2] at this
  unfold maxLen at this
  exact this
 have HC := Lib.hid hC
 have HD := Lib.hid hd
 have HN1 := Lib.hid hN1
 have HN2 := Lib.hid hN2
 have H1 := Lib.hid h1
 have H2 := Lib.hid h2
 clear hC hd hN1 hN2 h1 h2
 by_cases hne : N1 = N2
 ·subst hne
  go_enter Tryz.func31, Tryz.ntmps31
  go_wp2_with fail
  go_loopg [5] N1 (fun g s17 wr => ∃ j : Nat, s17 = .int .i64 j ∧ j ≤ N1 ∧ g = N1 - j ∧ Hid (l1.take j = l2.take j) ∧ Hid (Below w.heap.size w wr))
  case atStart => exact ⟨0, rfl, Nat.zero_le _, rfl, rfl, Below.refl _ _⟩
  case round =>
   obtain ⟨j, rfl, hj, rfl, HT, HB⟩ := hrel
   by_cases hlt : j < N1
   ·obtain ⟨x, hx⟩ : ∃ x, l1[j]? = some x := ⟨_, List.getElem?_eq_getElem (by rw [HN1.out]; exact hlt)⟩
    obtain ⟨y, hy⟩ : ∃ x, l2[j]? = some x := ⟨_, List.getElem?_eq_getElem (by rw [HN2.out]; exact hlt)⟩
    obtain ⟨b1, o1, vx1, vy1, vz1, rfl, _, hc1, _, hx1, hy1, hz1⟩ := H1.out.get hx
    obtain ⟨px1, kx1, rfl, _⟩ := hx1.form
    obtain ⟨Ax1, hAx1⟩ : ∃ q, x.exprs.length = q := ⟨_, rfl⟩
    rw [hAx1] at hx1 hc1
    obtain ⟨py1, ky1, rfl, _⟩ := hy1.form
    obtain ⟨Ay1, hAy1⟩ : ∃ q, x.body.length = q := ⟨_, rfl⟩
    rw [hAy1] at hy1 hc1
    obtain ⟨pz1, kz1, rfl, _⟩ := hz1.form
    obtain ⟨Az1, hAz1⟩ : ∃ q, x.els.length = q := ⟨_, rfl⟩
    rw [hAz1] at hz1 hc1
    obtain ⟨b2, o2, vx2, vy2, vz2, rfl, _, hc2, _, hx2, hy2, hz2⟩ := H2.out.get hy
    obtain ⟨px2, kx2, rfl, _⟩ := hx2.form
    obtain ⟨Ax2, hAx2⟩ : ∃ q, y.exprs.length = q := ⟨_, rfl⟩
    rw [hAx2] at hx2 hc2
    obtain ⟨py2, ky2, rfl, _⟩ := hy2.form
    obtain ⟨Ay2, hAy2⟩ : ∃ q, y.body.length = q := ⟨_, rfl⟩
    rw [hAy2] at hy2 hc2
    obtain ⟨pz2, kz2, rfl, _⟩ := hz2.form
    obtain ⟨Az2, hAz2⟩ : ∃ q, y.els.length = q := ⟨_, rfl⟩
    rw [hAz2] at hz2 hc2
    obtain ⟨x0, x1, x2, x3, x4⟩ := hc1.keep HB.out
    obtain ⟨y0, y1, y2, y3, y4⟩ := hc2.keep HB.out
    obtain ⟨hp, hq1, hq2⟩ := Tr.S.deep_in HD.out hx
    have KX : Hid (∀ W, Below w.heap.size w W → Calls Tryz.prog 37 #[.slice px1 Ax1 kx1, .slice px2 Ax2 kx2] W fun r w' => r = .returned (.bool (Sy.sameEs x.exprs y.exprs)) ∧ Below W.heap.size W w') := fun W hb => refSameEs_of (refSameExpr_any _) x.exprs y.exprs px1 Ax1 kx1 px2 Ax2 kx2 W (Nat.le_refl _) hAx1 hAx2 (hx1.keep hb) (hx2.keep hb)
    have KY : Hid (∀ W, Below w.heap.size w W → Calls Tryz.prog 31 #[.slice py1 Ay1 ky1, .slice py2 Ay2 ky2] W fun r w' => r = .returned (.bool (Sy.sameSs x.body y.body)) ∧ Below W.heap.size W w') := fun W hb => HC.out _ (by omega) x.body y.body py1 Ay1 ky1 py2 Ay2 ky2 W hq1 hAy1 hAy2 (hy1.keep hb) (hy2.keep hb)
    have KZ : Hid (∀ W, Below w.heap.size w W → Calls Tryz.prog 31 #[.slice pz1 Az1 kz1, .slice pz2 Az2 kz2] W fun r w' => r = .returned (.bool (Sy.sameSs x.els y.els)) ∧ Below W.heap.size W w') := fun W hb => HC.out _ (by omega) x.els y.els pz1 Az1 kz1 pz2 Az2 kz2 W hq2 hAz1 hAz2 (hz1.keep hb) (hz2.keep hb)
    have hsame := sameS_parts x y
    obtain ⟨S, hSx⟩ : ∃ q, Sy.sameS x y = q := ⟨_, rfl⟩
    rw [hSx] at hsame
    have HSX := Lib.hid hSx
    obtain ⟨qx, hqx⟩ : ∃ q, Sy.sameEs x.exprs y.exprs = q := ⟨_, rfl⟩
    obtain ⟨qy, hqy⟩ : ∃ q, Sy.sameSs x.body y.body = q := ⟨_, rfl⟩
    obtain ⟨qz, hqz⟩ : ∃ q, Sy.sameSs x.els y.els = q := ⟨_, rfl⟩
    rw [hqx] at KX hsame
    rw [hqy] at KY hsame
    rw [hqz] at KZ hsame
    have HX := Lib.hid hx
    have HY := Lib.hid hy
    have b3 : (j : Int) < (N1 : Int) := by omega
    have b5 : (0 : Int) ≤ (j : Int) := by omega
    have hl1 := cell_lt' x0
    have hl2 := cell_lt' y0
    clear hx hy hc1 hc2 hx1 hy1 hz1 hx2 hy2 hz2 hSx hqx hqy hqz hp hq1 hq2 hAx1 hAx2 hAy1 hAy2 hAz1 hAz2
    by_cases hk : x.kind = y.kind
    ·have hk2 : (x.kind != y.kind) = false := by simp [hk]
     by_cases hn : x.name = y.name
     ·have hn2 : (!(x.name.toList == y.name.toList)) = false := by simp [hn]
      rw [decide_eq_true hk, decide_eq_true hn] at hsame
      clear hk hn
      cases qx
      ·obtain rfl : S = false := by simpa using hsame
       clear hsame KY KZ
       go_upto_region 6 with fail
       refine wp_region_held_drew (S := fun W => W.cell? ⟨b1, o1 + j * 5, none⟩ = some (.int .i64 x.kind) ∧ W.cell? ⟨b1, o1 + j * 5 + 1, none⟩ = some (.string x.name) ∧ W.cell? ⟨b1, o1 + j * 5 + 2, none⟩ = some (.slice px1 Ax1 kx1) ∧ W.cell? ⟨b1, o1 + j * 5 + 3, none⟩ = some (.slice py1 Ay1 ky1) ∧ W.cell? ⟨b1, o1 + j * 5 + 4, none⟩ = some (.slice pz1 Az1 kz1) ∧ W.cell? ⟨b2, o2 + j * 5, none⟩ = some (.int .i64 y.kind) ∧ W.cell? ⟨b2, o2 + j * 5 + 1, none⟩ = some (.string y.name) ∧ W.cell? ⟨b2, o2 + j * 5 + 2, none⟩ = some (.slice px2 Ax2 kx2) ∧ W.cell? ⟨b2, o2 + j * 5 + 3, none⟩ = some (.slice py2 Ay2 ky2) ∧ W.cell? ⟨b2, o2 + j * 5 + 4, none⟩ = some (.slice pz2 Az2 kz2) ∧ Hid (Below w.heap.size w W)) (by kernel_rfl) ?_ (fun hHeld => ?_)
       ·exact ⟨x0, x1, x2, x3, x4, y0, y1, y2, y3, y4, Lib.hid (HB.out).drew⟩
       clear x0 x1 x2 x3 x4 y0 y1 y2 y3 y4
       refine rT 0 (some 17) ?_ (hS := by assumption)
       try simp only [Act.put, q0, q1, q2]
       refine rT 1 (some 18) ?_ (hS := by assumption)
       try simp only [Act.put, q0, q1, q2]
       refine rT 2 (some 19) ?_ (hS := by assumption)
       try simp only [Act.put, q0, q1, q2]
       refine rT 3 (some 20) ?_ (hS := by assumption)
       try simp only [Act.put, q0, q1, q2]
       refine rT 4 (some 21) ?_ (hS := by assumption)
       try simp only [Act.put, q0, q1, q2]
       refine rT 5 (some 22) ?_ (hS := by assumption)
       try simp only [Act.put, q0, q1, q2]
       refine rT 6 (some 23) ?_ (hS := by assumption)
       try simp only [Act.put, q0, q1, q2]
       refine rT 7 (some 24) ?_ (hS := by assumption)
       try simp only [Act.put, q0, q1, q2]
       refine rT 8 (some 25) ?_ (hS := by assumption)
       try simp only [Act.put, q0, q1, q2]
       refine rT 9 (some 26) ?_ (hS := by assumption)
       try simp only [Act.put, q0, q1, q2]
       refine rT 10 (some 27) ?_ (hS := by assumption)
       try simp only [Act.put, q0, q1, q2]
       refine rT 11 (some 28) ?_ (hS := by assumption)
       try simp only [Act.put, q0, q1, q2]
       refine rT 12 (some 29) ?_ (hS := by assumption)
       try simp only [Act.put, q0, q1, q2]
       refine rT 13 (some 30) ?_ (hS := by assumption)
       try simp only [Act.put, q0, q1, q2]
       refine rT 14 (some 31) ?_ (hS := by assumption)
       try simp only [Act.put, q0, q1, q2]
       refine rT 15 (some 32) ?_ (hS := by assumption)
       try simp only [Act.put, q0, q1, q2]
       refine rT 16 (some 33) ?_ (hS := by assumption)
       try simp only [Act.put, q0, q1, q2]
       refine rT 17 (some 34) ?_ (hS := by assumption)
       try simp only [Act.put, q0, q1, q2]
       refine rT 18 (some 35) ?_ (hS := by assumption)
       try simp only [Act.put, q0, q1, q2]
       refine rT 19 (some 36) ?_ (hS := by assumption)
       try simp only [Act.put, q0, q1, q2]
       refine rT 20 (some 37) ?_ (hS := by assumption)
       try simp only [Act.put, q0, q1, q2]
       refine rT 21 (some 38) ?_ (hS := by assumption)
       try simp only [Act.put, q0, q1, q2]
       refine rT 22 (some 39) ?_ (hS := by assumption)
       try simp only [Act.put, q0, q1, q2]
       refine rT 23 (some 40) ?_ (hS := by assumption)
       try simp only [Act.put, q0, q1, q2]
       refine rT 24 (some 41) ?_ (hS := by assumption)
       try simp only [Act.put, q0, q1, q2]
       refine rT 25 (some 42) ?_ (hS := by assumption)
       try simp only [Act.put, q0, q1, q2]
       refine rT 26 (some 43) ?_ (hS := by assumption)
       try simp only [Act.put, q0, q1, q2]
       refine rT 27 (some 44) ?_ (hS := by assumption)
       try simp only [Act.put, q0, q1, q2]
       refine rT 28 (some 45) ?_ (hS := by assumption)
       try simp only [Act.put, q0, q1, q2]
       refine rT 29 (some 46) ?_ (hS := by assumption)
       try simp only [Act.put, q0, q1, q2]
       refine rT 30 (some 47) ?_ (hS := by assumption)
       try simp only [Act.put, q0, q1, q2]
       refine rT 31 (some 48) ?_ (hS := by assumption)
       try simp only [Act.put, q0, q1, q2]
       refine rT 32 (some 49) ?_ (hS := by assumption)
       try simp only [Act.put, q0, q1, q2]
       refine rT 33 (some 50) ?_ (hS := by assumption)
       try simp only [Act.put, q0, q1, q2]
       refine rT 34 (some 51) ?_ (hS := by assumption)
       try simp only [Act.put, q0, q1, q2]
       refine rR1 35 (some 52) (fun K hK => ?_)
       go_simp
       with_reducible refine (KX.out _ hHeld.2.2.2.2.2.2.2.2.2.2.out).mono ?_
       rintro e w' ⟨rfl, hb⟩
       go_wp2_with fail
       refine hK.out _ _ ?_ (fun hHeld => ?_)
       ·exact ⟨cell_keep' hb hHeld.1, cell_keep' hb hHeld.2.1, cell_keep' hb hHeld.2.2.1, cell_keep' hb hHeld.2.2.2.1, cell_keep' hb hHeld.2.2.2.2.1, cell_keep' hb hHeld.2.2.2.2.2.1, cell_keep' hb hHeld.2.2.2.2.2.2.1, cell_keep' hb hHeld.2.2.2.2.2.2.2.1, cell_keep' hb hHeld.2.2.2.2.2.2.2.2.1, cell_keep' hb hHeld.2.2.2.2.2.2.2.2.2.1, Lib.hid (below_next hHeld.2.2.2.2.2.2.2.2.2.2.out hb)⟩
       clear hK K
       try simp only [Act.put, q0, q1, q2]
       clear hb
       refine rT 36 (some 53) ?_ (hS := by assumption)
       try simp only [Act.put, q0, q1, q2]
       refine rT 37 (some 54) ?_ (hS := by assumption)
       try simp only [Act.put, q0, q1, q2]
       refine rT 38 (some 55) ?_ (hS := by assumption)
       try simp only [Act.put, q0, q1, q2]
       refine rK 39 (some 56) ?_ (hS := by assumption)
       try simp only [Act.put, q0, q1, q2]
       refine rK 40 (some 57) ?_ (hS := by assumption)
       try simp only [Act.put, q0, q1, q2]
       refine rK 41 (some 58) ?_ (hS := by assumption)
       try simp only [Act.put, q0, q1, q2]
       refine rK 42 (some 59) ?_ (hS := by assumption)
       try simp only [Act.put, q0, q1, q2]
       refine rK 43 (some 60) ?_ (hS := by assumption)
       try simp only [Act.put, q0, q1, q2]
       refine rK 44 (some 61) ?_ (hS := by assumption)
       try simp only [Act.put, q0, q1, q2]
       refine rK 45 (some 62) ?_ (hS := by assumption)
       try simp only [Act.put, q0, q1, q2]
       refine rK 46 (some 63) ?_ (hS := by assumption)
       try simp only [Act.put, q0, q1, q2]
       refine rK 47 (some 64) ?_ (hS := by assumption)
       try simp only [Act.put, q0, q1, q2]
       refine rK 48 (some 65) ?_ (hS := by assumption)
       try simp only [Act.put, q0, q1, q2]
       refine rK 49 (some 66) ?_ (hS := by assumption)
       try simp only [Act.put, q0, q1, q2]
       refine rK 50 (some 67) ?_ (hS := by assumption)
       try simp only [Act.put, q0, q1, q2]
       refine rT 51 (some 68) ?_ (hS := by assumption)
       try simp only [Act.put, q0, q1, q2]
       refine rT 52 (some 69) ?_ (hS := by assumption)
       try simp only [Act.put, q0, q1, q2]
       refine rK 53 (some 70) ?_ (hS := by assumption)
       try simp only [Act.put, q0, q1, q2]
       refine rK 54 (some 71) ?_ (hS := by assumption)
       try simp only [Act.put, q0, q1, q2]
       refine rK 55 (some 72) ?_ (hS := by assumption)
       try simp only [Act.put, q0, q1, q2]
       refine rK 56 (some 73) ?_ (hS := by assumption)
       try simp only [Act.put, q0, q1, q2]
       refine rK 57 (some 74) ?_ (hS := by assumption)
       try simp only [Act.put, q0, q1, q2]
       refine rK 58 (some 75) ?_ (hS := by assumption)
       try simp only [Act.put, q0, q1, q2]
       refine rK 59 (some 76) ?_ (hS := by assumption)
       try simp only [Act.put, q0, q1, q2]
       refine rK 60 (some 77) ?_ (hS := by assumption)
       try simp only [Act.put, q0, q1, q2]
       refine rK 61 (some 78) ?_ (hS := by assumption)
       try simp only [Act.put, q0, q1, q2]
       refine rK 62 (some 79) ?_ (hS := by assumption)
       try simp only [Act.put, q0, q1, q2]
       refine rK 63 (some 80) ?_ (hS := by assumption)
       try simp only [Act.put, q0, q1, q2]
       refine rK 64 (some 81) ?_ (hS := by assumption)
       try simp only [Act.put, q0, q1, q2]
       refine rT 65 (some 82) ?_ (hS := by assumption)
       try simp only [Act.put, q0, q1, q2]
       refine wpAnyH_done (by kernel_rfl) ?_ _
       have HZ := Lib.hid hHeld.2.2.2.2.2.2.2.2.2.2.out
       clear hHeld
       go_wp2_with fail
       go_ret
       refine ⟨?_, HZ.out⟩
       rw [show Sy.sameSs l1 l2 = false by
        rw [Bool.eq_false_iff]
        intro h
        rw [Sy.sameSs_iff] at h
        have h3 := HX.out
        rw [h, HY.out] at h3
        have h4 := HSX.out
        rw [Option.some.inj h3, (Sy.sameS_iff x x).2 rfl] at h4
        cases h4]
       rfl
      ·cases qy
       ·obtain rfl : S = false := by simpa using hsame
        clear hsame KZ
        go_upto_region 6 with fail
        refine wp_region_held_drew (S := fun W => W.cell? ⟨b1, o1 + j * 5, none⟩ = some (.int .i64 x.kind) ∧ W.cell? ⟨b1, o1 + j * 5 + 1, none⟩ = some (.string x.name) ∧ W.cell? ⟨b1, o1 + j * 5 + 2, none⟩ = some (.slice px1 Ax1 kx1) ∧ W.cell? ⟨b1, o1 + j * 5 + 3, none⟩ = some (.slice py1 Ay1 ky1) ∧ W.cell? ⟨b1, o1 + j * 5 + 4, none⟩ = some (.slice pz1 Az1 kz1) ∧ W.cell? ⟨b2, o2 + j * 5, none⟩ = some (.int .i64 y.kind) ∧ W.cell? ⟨b2, o2 + j * 5 + 1, none⟩ = some (.string y.name) ∧ W.cell? ⟨b2, o2 + j * 5 + 2, none⟩ = some (.slice px2 Ax2 kx2) ∧ W.cell? ⟨b2, o2 + j * 5 + 3, none⟩ = some (.slice py2 Ay2 ky2) ∧ W.cell? ⟨b2, o2 + j * 5 + 4, none⟩ = some (.slice pz2 Az2 kz2) ∧ Hid (Below w.heap.size w W)) (by kernel_rfl) ?_ (fun hHeld => ?_)
        ·exact ⟨x0, x1, x2, x3, x4, y0, y1, y2, y3, y4, Lib.hid (HB.out).drew⟩
        clear x0 x1 x2 x3 x4 y0 y1 y2 y3 y4
        refine rT 0 (some 17) ?_ (hS := by assumption)
        try simp only [Act.put, q0, q1, q2]
        refine rT 1 (some 18) ?_ (hS := by assumption)
        try simp only [Act.put, q0, q1, q2]
        refine rT 2 (some 19) ?_ (hS := by assumption)
        try simp only [Act.put, q0, q1, q2]
        refine rT 3 (some 20) ?_ (hS := by assumption)
        try simp only [Act.put, q0, q1, q2]
        refine rT 4 (some 21) ?_ (hS := by assumption)
        try simp only [Act.put, q0, q1, q2]
        refine rT 5 (some 22) ?_ (hS := by assumption)
        try simp only [Act.put, q0, q1, q2]
        refine rT 6 (some 23) ?_ (hS := by assumption)
        try simp only [Act.put, q0, q1, q2]
        refine rT 7 (some 24) ?_ (hS := by assumption)
        try simp only [Act.put, q0, q1, q2]
        refine rT 8 (some 25) ?_ (hS := by assumption)
        try simp only [Act.put, q0, q1, q2]
        refine rT 9 (some 26) ?_ (hS := by assumption)
        try simp only [Act.put, q0, q1, q2]
        refine rT 10 (some 27) ?_ (hS := by assumption)
        try simp only [Act.put, q0, q1, q2]
        refine rT 11 (some 28) ?_ (hS := by assumption)
        try simp only [Act.put, q0, q1, q2]
        refine rT 12 (some 29) ?_ (hS := by assumption)
        try simp only [Act.put, q0, q1, q2]
        refine rT 13 (some 30) ?_ (hS := by assumption)
        try simp only [Act.put, q0, q1, q2]
        refine rT 14 (some 31) ?_ (hS := by assumption)
        try simp only [Act.put, q0, q1, q2]
        refine rT 15 (some 32) ?_ (hS := by assumption)
        try simp only [Act.put, q0, q1, q2]
        refine rT 16 (some 33) ?_ (hS := by assumption)
        try simp only [Act.put, q0, q1, q2]
        refine rT 17 (some 34) ?_ (hS := by assumption)
        try simp only [Act.put, q0, q1, q2]
        refine rT 18 (some 35) ?_ (hS := by assumption)
        try simp only [Act.put, q0, q1, q2]
        refine rT 19 (some 36) ?_ (hS := by assumption)
        try simp only [Act.put, q0, q1, q2]
        refine rT 20 (some 37) ?_ (hS := by assumption)
        try simp only [Act.put, q0, q1, q2]
        refine rT 21 (some 38) ?_ (hS := by assumption)
        try simp only [Act.put, q0, q1, q2]
        refine rT 22 (some 39) ?_ (hS := by assumption)
        try simp only [Act.put, q0, q1, q2]
        refine rT 23 (some 40) ?_ (hS := by assumption)
        try simp only [Act.put, q0, q1, q2]
        refine rT 24 (some 41) ?_ (hS := by assumption)
        try simp only [Act.put, q0, q1, q2]
        refine rT 25 (some 42) ?_ (hS := by assumption)
        try simp only [Act.put, q0, q1, q2]
        refine rT 26 (some 43) ?_ (hS := by assumption)
        try simp only [Act.put, q0, q1, q2]
        refine rT 27 (some 44) ?_ (hS := by assumption)
        try simp only [Act.put, q0, q1, q2]
        refine rT 28 (some 45) ?_ (hS := by assumption)
        try simp only [Act.put, q0, q1, q2]
        refine rT 29 (some 46) ?_ (hS := by assumption)
        try simp only [Act.put, q0, q1, q2]
        refine rT 30 (some 47) ?_ (hS := by assumption)
        try simp only [Act.put, q0, q1, q2]
        refine rT 31 (some 48) ?_ (hS := by assumption)
        try simp only [Act.put, q0, q1, q2]
        refine rT 32 (some 49) ?_ (hS := by assumption)
        try simp only [Act.put, q0, q1, q2]
        refine rT 33 (some 50) ?_ (hS := by assumption)
        try simp only [Act.put, q0, q1, q2]
        refine rT 34 (some 51) ?_ (hS := by assumption)
        try simp only [Act.put, q0, q1, q2]
        refine rR1 35 (some 52) (fun K hK => ?_)
        go_simp
        with_reducible refine (KX.out _ hHeld.2.2.2.2.2.2.2.2.2.2.out).mono ?_
        rintro e w' ⟨rfl, hb⟩
        go_wp2_with fail
        refine hK.out _ _ ?_ (fun hHeld => ?_)
        ·exact ⟨cell_keep' hb hHeld.1, cell_keep' hb hHeld.2.1, cell_keep' hb hHeld.2.2.1, cell_keep' hb hHeld.2.2.2.1, cell_keep' hb hHeld.2.2.2.2.1, cell_keep' hb hHeld.2.2.2.2.2.1, cell_keep' hb hHeld.2.2.2.2.2.2.1, cell_keep' hb hHeld.2.2.2.2.2.2.2.1, cell_keep' hb hHeld.2.2.2.2.2.2.2.2.1, cell_keep' hb hHeld.2.2.2.2.2.2.2.2.2.1, Lib.hid (below_next hHeld.2.2.2.2.2.2.2.2.2.2.out hb)⟩
        clear hK K
        try simp only [Act.put, q0, q1, q2]
        clear hb
        refine rT 36 (some 53) ?_ (hS := by assumption)
        try simp only [Act.put, q0, q1, q2]
        refine rT 37 (some 54) ?_ (hS := by assumption)
        try simp only [Act.put, q0, q1, q2]
        refine rT 38 (some 55) ?_ (hS := by assumption)
        try simp only [Act.put, q0, q1, q2]
        refine rT 39 (some 56) ?_ (hS := by assumption)
        try simp only [Act.put, q0, q1, q2]
        refine rT 40 (some 57) ?_ (hS := by assumption)
        try simp only [Act.put, q0, q1, q2]
        refine rT 41 (some 58) ?_ (hS := by assumption)
        try simp only [Act.put, q0, q1, q2]
        refine rT 42 (some 59) ?_ (hS := by assumption)
        try simp only [Act.put, q0, q1, q2]
        refine rT 43 (some 60) ?_ (hS := by assumption)
        try simp only [Act.put, q0, q1, q2]
        refine rT 44 (some 61) ?_ (hS := by assumption)
        try simp only [Act.put, q0, q1, q2]
        refine rT 45 (some 62) ?_ (hS := by assumption)
        try simp only [Act.put, q0, q1, q2]
        refine rT 46 (some 63) ?_ (hS := by assumption)
        try simp only [Act.put, q0, q1, q2]
        refine rT 47 (some 64) ?_ (hS := by assumption)
        try simp only [Act.put, q0, q1, q2]
        refine rT 48 (some 65) ?_ (hS := by assumption)
        try simp only [Act.put, q0, q1, q2]
        refine rR1 49 (some 66) (fun K hK => ?_)
        go_simp
        with_reducible refine (KY.out _ hHeld.2.2.2.2.2.2.2.2.2.2.out).mono ?_
        rintro e w' ⟨rfl, hb⟩
        go_wp2_with fail
        refine hK.out _ _ ?_ (fun hHeld => ?_)
        ·exact ⟨cell_keep' hb hHeld.1, cell_keep' hb hHeld.2.1, cell_keep' hb hHeld.2.2.1, cell_keep' hb hHeld.2.2.2.1, cell_keep' hb hHeld.2.2.2.2.1, cell_keep' hb hHeld.2.2.2.2.2.1, cell_keep' hb hHeld.2.2.2.2.2.2.1, cell_keep' hb hHeld.2.2.2.2.2.2.2.1, cell_keep' hb hHeld.2.2.2.2.2.2.2.2.1, cell_keep' hb hHeld.2.2.2.2.2.2.2.2.2.1, Lib.hid (below_next hHeld.2.2.2.2.2.2.2.2.2.2.out hb)⟩
        clear hK K
        try simp only [Act.put, q0, q1, q2]
        clear hb
        refine rT 50 (some 67) ?_ (hS := by assumption)
        try simp only [Act.put, q0, q1, q2]
        refine rT 51 (some 68) ?_ (hS := by assumption)
        try simp only [Act.put, q0, q1, q2]
        refine rT 52 (some 69) ?_ (hS := by assumption)
        try simp only [Act.put, q0, q1, q2]
        refine rK 53 (some 70) ?_ (hS := by assumption)
        try simp only [Act.put, q0, q1, q2]
        refine rK 54 (some 71) ?_ (hS := by assumption)
        try simp only [Act.put, q0, q1, q2]
        refine rK 55 (some 72) ?_ (hS := by assumption)
        try simp only [Act.put, q0, q1, q2]
        refine rK 56 (some 73) ?_ (hS := by assumption)
        try simp only [Act.put, q0, q1, q2]
        refine rK 57 (some 74) ?_ (hS := by assumption)
        try simp only [Act.put, q0, q1, q2]
        refine rK 58 (some 75) ?_ (hS := by assumption)
        try simp only [Act.put, q0, q1, q2]
        refine rK 59 (some 76) ?_ (hS := by assumption)
        try simp only [Act.put, q0, q1, q2]
        refine rK 60 (some 77) ?_ (hS := by assumption)
        try simp only [Act.put, q0, q1, q2]
        refine rK 61 (some 78) ?_ (hS := by assumption)
        try simp only [Act.put, q0, q1, q2]
        refine rK 62 (some 79) ?_ (hS := by assumption)
        try simp only [Act.put, q0, q1, q2]
        refine rK 63 (some 80) ?_ (hS := by assumption)
        try simp only [Act.put, q0, q1, q2]
        refine rK 64 (some 81) ?_ (hS := by assumption)
        try simp only [Act.put, q0, q1, q2]
        refine rT 65 (some 82) ?_ (hS := by assumption)
        try simp only [Act.put, q0, q1, q2]
        refine wpAnyH_done (by kernel_rfl) ?_ _
        have HZ := Lib.hid hHeld.2.2.2.2.2.2.2.2.2.2.out
        clear hHeld
        go_wp2_with fail
        go_ret
        refine ⟨?_, HZ.out⟩
        rw [show Sy.sameSs l1 l2 = false by
         rw [Bool.eq_false_iff]
         intro h
         rw [Sy.sameSs_iff] at h
         have h3 := HX.out
         rw [h, HY.out] at h3
         have h4 := HSX.out
         rw [Option.some.inj h3, (Sy.sameS_iff x x).2 rfl] at h4
         cases h4]
        rfl
       ·cases qz
        ·obtain rfl : S = false := by simpa using hsame
         clear hsame
         go_upto_region 6 with fail
         refine wp_region_held_drew (S := fun W => W.cell? ⟨b1, o1 + j * 5, none⟩ = some (.int .i64 x.kind) ∧ W.cell? ⟨b1, o1 + j * 5 + 1, none⟩ = some (.string x.name) ∧ W.cell? ⟨b1, o1 + j * 5 + 2, none⟩ = some (.slice px1 Ax1 kx1) ∧ W.cell? ⟨b1, o1 + j * 5 + 3, none⟩ = some (.slice py1 Ay1 ky1) ∧ W.cell? ⟨b1, o1 + j * 5 + 4, none⟩ = some (.slice pz1 Az1 kz1) ∧ W.cell? ⟨b2, o2 + j * 5, none⟩ = some (.int .i64 y.kind) ∧ W.cell? ⟨b2, o2 + j * 5 + 1, none⟩ = some (.string y.name) ∧ W.cell? ⟨b2, o2 + j * 5 + 2, none⟩ = some (.slice px2 Ax2 kx2) ∧ W.cell? ⟨b2, o2 + j * 5 + 3, none⟩ = some (.slice py2 Ay2 ky2) ∧ W.cell? ⟨b2, o2 + j * 5 + 4, none⟩ = some (.slice pz2 Az2 kz2) ∧ Hid (Below w.heap.size w W)) (by kernel_rfl) ?_ (fun hHeld => ?_)
         ·exact ⟨x0, x1, x2, x3, x4, y0, y1, y2, y3, y4, Lib.hid (HB.out).drew⟩
         clear x0 x1 x2 x3 x4 y0 y1 y2 y3 y4
         refine rT 0 (some 17) ?_ (hS := by assumption)
         try simp only [Act.put, q0, q1, q2]
         refine rT 1 (some 18) ?_ (hS := by assumption)
         try simp only [Act.put, q0, q1, q2]
         refine rT 2 (some 19) ?_ (hS := by assumption)
         try simp only [Act.put, q0, q1, q2]
         refine rT 3 (some 20) ?_ (hS := by assumption)
         try simp only [Act.put, q0, q1, q2]
         refine rT 4 (some 21) ?_ (hS := by assumption)
         try simp only [Act.put, q0, q1, q2]
         refine rT 5 (some 22) ?_ (hS := by assumption)
         try simp only [Act.put, q0, q1, q2]
         refine rT 6 (some 23) ?_ (hS := by assumption)
         try simp only [Act.put, q0, q1, q2]
         refine rT 7 (some 24) ?_ (hS := by assumption)
         try simp only [Act.put, q0, q1, q2]
         refine rT 8 (some 25) ?_ (hS := by assumption)
         try simp only [Act.put, q0, q1, q2]
         refine rT 9 (some 26) ?_ (hS := by assumption)
         try simp only [Act.put, q0, q1, q2]
         refine rT 10 (some 27) ?_ (hS := by assumption)
         try simp only [Act.put, q0, q1, q2]
         refine rT 11 (some 28) ?_ (hS := by assumption)
         try simp only [Act.put, q0, q1, q2]
         refine rT 12 (some 29) ?_ (hS := by assumption)
         try simp only [Act.put, q0, q1, q2]
         refine rT 13 (some 30) ?_ (hS := by assumption)
         try simp only [Act.put, q0, q1, q2]
         refine rT 14 (some 31) ?_ (hS := by assumption)
         try simp only [Act.put, q0, q1, q2]
         refine rT 15 (some 32) ?_ (hS := by assumption)
         try simp only [Act.put, q0, q1, q2]
         refine rT 16 (some 33) ?_ (hS := by assumption)
         try simp only [Act.put, q0, q1, q2]
         refine rT 17 (some 34) ?_ (hS := by assumption)
         try simp only [Act.put, q0, q1, q2]
         refine rT 18 (some 35) ?_ (hS := by assumption)
         try simp only [Act.put, q0, q1, q2]
         refine rT 19 (some 36) ?_ (hS := by assumption)
         try simp only [Act.put, q0, q1, q2]
         refine rT 20 (some 37) ?_ (hS := by assumption)
         try simp only [Act.put, q0, q1, q2]
         refine rT 21 (some 38) ?_ (hS := by assumption)
         try simp only [Act.put, q0, q1, q2]
         refine rT 22 (some 39) ?_ (hS := by assumption)
         try simp only [Act.put, q0, q1, q2]
         refine rT 23 (some 40) ?_ (hS := by assumption)
         try simp only [Act.put, q0, q1, q2]
         refine rT 24 (some 41) ?_ (hS := by assumption)
         try simp only [Act.put, q0, q1, q2]
         refine rT 25 (some 42) ?_ (hS := by assumption)
         try simp only [Act.put, q0, q1, q2]
         refine rT 26 (some 43) ?_ (hS := by assumption)
         try simp only [Act.put, q0, q1, q2]
         refine rT 27 (some 44) ?_ (hS := by assumption)
         try simp only [Act.put, q0, q1, q2]
         refine rT 28 (some 45) ?_ (hS := by assumption)
         try simp only [Act.put, q0, q1, q2]
         refine rT 29 (some 46) ?_ (hS := by assumption)
         try simp only [Act.put, q0, q1, q2]
         refine rT 30 (some 47) ?_ (hS := by assumption)
         try simp only [Act.put, q0, q1, q2]
         refine rT 31 (some 48) ?_ (hS := by assumption)
         try simp only [Act.put, q0, q1, q2]
         refine rT 32 (some 49) ?_ (hS := by assumption)
         try simp only [Act.put, q0, q1, q2]
         refine rT 33 (some 50) ?_ (hS := by assumption)
         try simp only [Act.put, q0, q1, q2]
         refine rT 34 (some 51) ?_ (hS := by assumption)
         try simp only [Act.put, q0, q1, q2]
         refine rR1 35 (some 52) (fun K hK => ?_)
         go_simp
         with_reducible refine (KX.out _ hHeld.2.2.2.2.2.2.2.2.2.2.out).mono ?_
         rintro e w' ⟨rfl, hb⟩
         go_wp2_with fail
         refine hK.out _ _ ?_ (fun hHeld => ?_)
         ·exact ⟨cell_keep' hb hHeld.1, cell_keep' hb hHeld.2.1, cell_keep' hb hHeld.2.2.1, cell_keep' hb hHeld.2.2.2.1, cell_keep' hb hHeld.2.2.2.2.1, cell_keep' hb hHeld.2.2.2.2.2.1, cell_keep' hb hHeld.2.2.2.2.2.2.1, cell_keep' hb hHeld.2.2.2.2.2.2.2.1, cell_keep' hb hHeld.2.2.2.2.2.2.2.2.1, cell_keep' hb hHeld.2.2.2.2.2.2.2.2.2.1, Lib.hid (below_next hHeld.2.2.2.2.2.2.2.2.2.2.out hb)⟩
         clear hK K
         try simp only [Act.put, q0, q1, q2]
         clear hb
         refine rT 36 (some 53) ?_ (hS := by assumption)
         try simp only [Act.put, q0, q1, q2]
         refine rT 37 (some 54) ?_ (hS := by assumption)
         try simp only [Act.put, q0, q1, q2]
         refine rT 38 (some 55) ?_ (hS := by assumption)
         try simp only [Act.put, q0, q1, q2]
         refine rT 39 (some 56) ?_ (hS := by assumption)
         try simp only [Act.put, q0, q1, q2]
         refine rT 40 (some 57) ?_ (hS := by assumption)
         try simp only [Act.put, q0, q1, q2]
         refine rT 41 (some 58) ?_ (hS := by assumption)
         try simp only [Act.put, q0, q1, q2]
         refine rT 42 (some 59) ?_ (hS := by assumption)
         try simp only [Act.put, q0, q1, q2]
         refine rT 43 (some 60) ?_ (hS := by assumption)
         try simp only [Act.put, q0, q1, q2]
         refine rT 44 (some 61) ?_ (hS := by assumption)
         try simp only [Act.put, q0, q1, q2]
         refine rT 45 (some 62) ?_ (hS := by assumption)
         try simp only [Act.put, q0, q1, q2]
         refine rT 46 (some 63) ?_ (hS := by assumption)
         try simp only [Act.put, q0, q1, q2]
         refine rT 47 (some 64) ?_ (hS := by assumption)
         try simp only [Act.put, q0, q1, q2]
         refine rT 48 (some 65) ?_ (hS := by assumption)
         try simp only [Act.put, q0, q1, q2]
         refine rR1 49 (some 66) (fun K hK => ?_)
         go_simp
         with_reducible refine (KY.out _ hHeld.2.2.2.2.2.2.2.2.2.2.out).mono ?_
         rintro e w' ⟨rfl, hb⟩
         go_wp2_with fail
         refine hK.out _ _ ?_ (fun hHeld => ?_)
         ·exact ⟨cell_keep' hb hHeld.1, cell_keep' hb hHeld.2.1, cell_keep' hb hHeld.2.2.1, cell_keep' hb hHeld.2.2.2.1, cell_keep' hb hHeld.2.2.2.2.1, cell_keep' hb hHeld.2.2.2.2.2.1, cell_keep' hb hHeld.2.2.2.2.2.2.1, cell_keep' hb hHeld.2.2.2.2.2.2.2.1, cell_keep' hb hHeld.2.2.2.2.2.2.2.2.1, cell_keep' hb hHeld.2.2.2.2.2.2.2.2.2.1, Lib.hid (below_next hHeld.2.2.2.2.2.2.2.2.2.2.out hb)⟩
         clear hK K
         try simp only [Act.put, q0, q1, q2]
         clear hb
         refine rT 50 (some 67) ?_ (hS := by assumption)
         try simp only [Act.put, q0, q1, q2]
         refine rT 51 (some 68) ?_ (hS := by assumption)
         try simp only [Act.put, q0, q1, q2]
         refine rT 52 (some 69) ?_ (hS := by assumption)
         try simp only [Act.put, q0, q1, q2]
         refine rT 53 (some 70) ?_ (hS := by assumption)
         try simp only [Act.put, q0, q1, q2]
         refine rT 54 (some 71) ?_ (hS := by assumption)
         try simp only [Act.put, q0, q1, q2]
         refine rT 55 (some 72) ?_ (hS := by assumption)
         try simp only [Act.put, q0, q1, q2]
         refine rT 56 (some 73) ?_ (hS := by assumption)
         try simp only [Act.put, q0, q1, q2]
         refine rT 57 (some 74) ?_ (hS := by assumption)
         try simp only [Act.put, q0, q1, q2]
         refine rT 58 (some 75) ?_ (hS := by assumption)
         try simp only [Act.put, q0, q1, q2]
         refine rT 59 (some 76) ?_ (hS := by assumption)
         try simp only [Act.put, q0, q1, q2]
         refine rT 60 (some 77) ?_ (hS := by assumption)
         try simp only [Act.put, q0, q1, q2]
         refine rT 61 (some 78) ?_ (hS := by assumption)
         try simp only [Act.put, q0, q1, q2]
         refine rT 62 (some 79) ?_ (hS := by assumption)
         try simp only [Act.put, q0, q1, q2]
         refine rR1 63 (some 80) (fun K hK => ?_)
         go_simp
         with_reducible refine (KZ.out _ hHeld.2.2.2.2.2.2.2.2.2.2.out).mono ?_
         rintro e w' ⟨rfl, hb⟩
         go_wp2_with fail
         refine hK.out _ _ ?_ (fun hHeld => ?_)
         ·exact ⟨cell_keep' hb hHeld.1, cell_keep' hb hHeld.2.1, cell_keep' hb hHeld.2.2.1, cell_keep' hb hHeld.2.2.2.1, cell_keep' hb hHeld.2.2.2.2.1, cell_keep' hb hHeld.2.2.2.2.2.1, cell_keep' hb hHeld.2.2.2.2.2.2.1, cell_keep' hb hHeld.2.2.2.2.2.2.2.1, cell_keep' hb hHeld.2.2.2.2.2.2.2.2.1, cell_keep' hb hHeld.2.2.2.2.2.2.2.2.2.1, Lib.hid (below_next hHeld.2.2.2.2.2.2.2.2.2.2.out hb)⟩
         clear hK K
         try simp only [Act.put, q0, q1, q2]
         clear hb
         refine rT 64 (some 81) ?_ (hS := by assumption)
         try simp only [Act.put, q0, q1, q2]
         refine rT 65 (some 82) ?_ (hS := by assumption)
         try simp only [Act.put, q0, q1, q2]
         refine wpAnyH_done (by kernel_rfl) ?_ _
         have HZ := Lib.hid hHeld.2.2.2.2.2.2.2.2.2.2.out
         clear hHeld
         go_wp2_with fail
         go_ret
         refine ⟨?_, HZ.out⟩
         rw [show Sy.sameSs l1 l2 = false by
          rw [Bool.eq_false_iff]
          intro h
          rw [Sy.sameSs_iff] at h
          have h3 := HX.out
          rw [h, HY.out] at h3
          have h4 := HSX.out
          rw [Option.some.inj h3, (Sy.sameS_iff x x).2 rfl] at h4
          cases h4]
         rfl
        ·obtain rfl : S = true := by simpa using hsame
         clear hsame
         go_upto_region 6 with fail
         refine wp_region_held_drew (S := fun W => W.cell? ⟨b1, o1 + j * 5, none⟩ = some (.int .i64 x.kind) ∧ W.cell? ⟨b1, o1 + j * 5 + 1, none⟩ = some (.string x.name) ∧ W.cell? ⟨b1, o1 + j * 5 + 2, none⟩ = some (.slice px1 Ax1 kx1) ∧ W.cell? ⟨b1, o1 + j * 5 + 3, none⟩ = some (.slice py1 Ay1 ky1) ∧ W.cell? ⟨b1, o1 + j * 5 + 4, none⟩ = some (.slice pz1 Az1 kz1) ∧ W.cell? ⟨b2, o2 + j * 5, none⟩ = some (.int .i64 y.kind) ∧ W.cell? ⟨b2, o2 + j * 5 + 1, none⟩ = some (.string y.name) ∧ W.cell? ⟨b2, o2 + j * 5 + 2, none⟩ = some (.slice px2 Ax2 kx2) ∧ W.cell? ⟨b2, o2 + j * 5 + 3, none⟩ = some (.slice py2 Ay2 ky2) ∧ W.cell? ⟨b2, o2 + j * 5 + 4, none⟩ = some (.slice pz2 Az2 kz2) ∧ Hid (Below w.heap.size w W)) (by kernel_rfl) ?_ (fun hHeld => ?_)
         ·exact ⟨x0, x1, x2, x3, x4, y0, y1, y2, y3, y4, Lib.hid (HB.out).drew⟩
         clear x0 x1 x2 x3 x4 y0 y1 y2 y3 y4
         refine rT 0 (some 17) ?_ (hS := by assumption)
         try simp only [Act.put, q0, q1, q2]
         refine rT 1 (some 18) ?_ (hS := by assumption)
         try simp only [Act.put, q0, q1, q2]
         refine rT 2 (some 19) ?_ (hS := by assumption)
         try simp only [Act.put, q0, q1, q2]
         refine rT 3 (some 20) ?_ (hS := by assumption)
         try simp only [Act.put, q0, q1, q2]
         refine rT 4 (some 21) ?_ (hS := by assumption)
         try simp only [Act.put, q0, q1, q2]
         refine rT 5 (some 22) ?_ (hS := by assumption)
         try simp only [Act.put, q0, q1, q2]
         refine rT 6 (some 23) ?_ (hS := by assumption)
         try simp only [Act.put, q0, q1, q2]
         refine rT 7 (some 24) ?_ (hS := by assumption)
         try simp only [Act.put, q0, q1, q2]
         refine rT 8 (some 25) ?_ (hS := by assumption)
         try simp only [Act.put, q0, q1, q2]
         refine rT 9 (some 26) ?_ (hS := by assumption)
         try simp only [Act.put, q0, q1, q2]
         refine rT 10 (some 27) ?_ (hS := by assumption)
         try simp only [Act.put, q0, q1, q2]
         refine rT 11 (some 28) ?_ (hS := by assumption)
         try simp only [Act.put, q0, q1, q2]
         refine rT 12 (some 29) ?_ (hS := by assumption)
         try simp only [Act.put, q0, q1, q2]
         refine rT 13 (some 30) ?_ (hS := by assumption)
         try simp only [Act.put, q0, q1, q2]
         refine rT 14 (some 31) ?_ (hS := by assumption)
         try simp only [Act.put, q0, q1, q2]
         refine rT 15 (some 32) ?_ (hS := by assumption)
         try simp only [Act.put, q0, q1, q2]
         refine rT 16 (some 33) ?_ (hS := by assumption)
         try simp only [Act.put, q0, q1, q2]
         refine rT 17 (some 34) ?_ (hS := by assumption)
         try simp only [Act.put, q0, q1, q2]
         refine rT 18 (some 35) ?_ (hS := by assumption)
         try simp only [Act.put, q0, q1, q2]
         refine rT 19 (some 36) ?_ (hS := by assumption)
         try simp only [Act.put, q0, q1, q2]
         refine rT 20 (some 37) ?_ (hS := by assumption)
         try simp only [Act.put, q0, q1, q2]
         refine rT 21 (some 38) ?_ (hS := by assumption)
         try simp only [Act.put, q0, q1, q2]
         refine rT 22 (some 39) ?_ (hS := by assumption)
         try simp only [Act.put, q0, q1, q2]
         refine rT 23 (some 40) ?_ (hS := by assumption)
         try simp only [Act.put, q0, q1, q2]
         refine rT 24 (some 41) ?_ (hS := by assumption)
         try simp only [Act.put, q0, q1, q2]
         refine rT 25 (some 42) ?_ (hS := by assumption)
         try simp only [Act.put, q0, q1, q2]
         refine rT 26 (some 43) ?_ (hS := by assumption)
         try simp only [Act.put, q0, q1, q2]
         refine rT 27 (some 44) ?_ (hS := by assumption)
         try simp only [Act.put, q0, q1, q2]
         refine rT 28 (some 45) ?_ (hS := by assumption)
         try simp only [Act.put, q0, q1, q2]
         refine rT 29 (some 46) ?_ (hS := by assumption)
         try simp only [Act.put, q0, q1, q2]
         refine rT 30 (some 47) ?_ (hS := by assumption)
         try simp only [Act.put, q0, q1, q2]
         refine rT 31 (some 48) ?_ (hS := by assumption)
         try simp only [Act.put, q0, q1, q2]
         refine rT 32 (some 49) ?_ (hS := by assumption)
         try simp only [Act.put, q0, q1, q2]
         refine rT 33 (some 50) ?_ (hS := by assumption)
         try simp only [Act.put, q0, q1, q2]
         refine rT 34 (some 51) ?_ (hS := by assumption)
         try simp only [Act.put, q0, q1, q2]
         refine rR1 35 (some 52) (fun K hK => ?_)
         go_simp
         with_reducible refine (KX.out _ hHeld.2.2.2.2.2.2.2.2.2.2.out).mono ?_
         rintro e w' ⟨rfl, hb⟩
         go_wp2_with fail
         refine hK.out _ _ ?_ (fun hHeld => ?_)
         ·exact ⟨cell_keep' hb hHeld.1, cell_keep' hb hHeld.2.1, cell_keep' hb hHeld.2.2.1, cell_keep' hb hHeld.2.2.2.1, cell_keep' hb hHeld.2.2.2.2.1, cell_keep' hb hHeld.2.2.2.2.2.1, cell_keep' hb hHeld.2.2.2.2.2.2.1, cell_keep' hb hHeld.2.2.2.2.2.2.2.1, cell_keep' hb hHeld.2.2.2.2.2.2.2.2.1, cell_keep' hb hHeld.2.2.2.2.2.2.2.2.2.1, Lib.hid (below_next hHeld.2.2.2.2.2.2.2.2.2.2.out hb)⟩
         clear hK K
         try simp only [Act.put, q0, q1, q2]
         clear hb
         refine rT 36 (some 53) ?_ (hS := by assumption)
         try simp only [Act.put, q0, q1, q2]
         refine rT 37 (some 54) ?_ (hS := by assumption)
         try simp only [Act.put, q0, q1, q2]
         refine rT 38 (some 55) ?_ (hS := by assumption)
         try simp only [Act.put, q0, q1, q2]
         refine rT 39 (some 56) ?_ (hS := by assumption)
         try simp only [Act.put, q0, q1, q2]
         refine rT 40 (some 57) ?_ (hS := by assumption)
         try simp only [Act.put, q0, q1, q2]
         refine rT 41 (some 58) ?_ (hS := by assumption)
         try simp only [Act.put, q0, q1, q2]
         refine rT 42 (some 59) ?_ (hS := by assumption)
         try simp only [Act.put, q0, q1, q2]
         refine rT 43 (some 60) ?_ (hS := by assumption)
         try simp only [Act.put, q0, q1, q2]
         refine rT 44 (some 61) ?_ (hS := by assumption)
         try simp only [Act.put, q0, q1, q2]
         refine rT 45 (some 62) ?_ (hS := by assumption)
         try simp only [Act.put, q0, q1, q2]
         refine rT 46 (some 63) ?_ (hS := by assumption)
         try simp only [Act.put, q0, q1, q2]
         refine rT 47 (some 64) ?_ (hS := by assumption)
         try simp only [Act.put, q0, q1, q2]
         refine rT 48 (some 65) ?_ (hS := by assumption)
         try simp only [Act.put, q0, q1, q2]
         refine rR1 49 (some 66) (fun K hK => ?_)
         go_simp
         with_reducible refine (KY.out _ hHeld.2.2.2.2.2.2.2.2.2.2.out).mono ?_
         rintro e w' ⟨rfl, hb⟩
         go_wp2_with fail
         refine hK.out _ _ ?_ (fun hHeld => ?_)
         ·exact ⟨cell_keep' hb hHeld.1, cell_keep' hb hHeld.2.1, cell_keep' hb hHeld.2.2.1, cell_keep' hb hHeld.2.2.2.1, cell_keep' hb hHeld.2.2.2.2.1, cell_keep' hb hHeld.2.2.2.2.2.1, cell_keep' hb hHeld.2.2.2.2.2.2.1, cell_keep' hb hHeld.2.2.2.2.2.2.2.1, cell_keep' hb hHeld.2.2.2.2.2.2.2.2.1, cell_keep' hb hHeld.2.2.2.2.2.2.2.2.2.1, Lib.hid (below_next hHeld.2.2.2.2.2.2.2.2.2.2.out hb)⟩
         clear hK K
         try simp only [Act.put, q0, q1, q2]
         clear hb
         refine rT 50 (some 67) ?_ (hS := by assumption)
         try simp only [Act.put, q0, q1, q2]
         refine rT 51 (some 68) ?_ (hS := by assumption)
         try simp only [Act.put, q0, q1, q2]
         refine rT 52 (some 69) ?_ (hS := by assumption)
         try simp only [Act.put, q0, q1, q2]
         refine rT 53 (some 70) ?_ (hS := by assumption)
         try simp only [Act.put, q0, q1, q2]
         refine rT 54 (some 71) ?_ (hS := by assumption)
         try simp only [Act.put, q0, q1, q2]
         refine rT 55 (some 72) ?_ (hS := by assumption)
         try simp only [Act.put, q0, q1, q2]
         refine rT 56 (some 73) ?_ (hS := by assumption)
         try simp only [Act.put, q0, q1, q2]
         refine rT 57 (some 74) ?_ (hS := by assumption)
         try simp only [Act.put, q0, q1, q2]
         refine rT 58 (some 75) ?_ (hS := by assumption)
         try simp only [Act.put, q0, q1, q2]
         refine rT 59 (some 76) ?_ (hS := by assumption)
         try simp only [Act.put, q0, q1, q2]
         refine rT 60 (some 77) ?_ (hS := by assumption)
         try simp only [Act.put, q0, q1, q2]
         refine rT 61 (some 78) ?_ (hS := by assumption)
         try simp only [Act.put, q0, q1, q2]
         refine rT 62 (some 79) ?_ (hS := by assumption)
         try simp only [Act.put, q0, q1, q2]
         refine rR1 63 (some 80) (fun K hK => ?_)
         go_simp
         with_reducible refine (KZ.out _ hHeld.2.2.2.2.2.2.2.2.2.2.out).mono ?_
         rintro e w' ⟨rfl, hb⟩
         go_wp2_with fail
         refine hK.out _ _ ?_ (fun hHeld => ?_)
         ·exact ⟨cell_keep' hb hHeld.1, cell_keep' hb hHeld.2.1, cell_keep' hb hHeld.2.2.1, cell_keep' hb hHeld.2.2.2.1, cell_keep' hb hHeld.2.2.2.2.1, cell_keep' hb hHeld.2.2.2.2.2.1, cell_keep' hb hHeld.2.2.2.2.2.2.1, cell_keep' hb hHeld.2.2.2.2.2.2.2.1, cell_keep' hb hHeld.2.2.2.2.2.2.2.2.1, cell_keep' hb hHeld.2.2.2.2.2.2.2.2.2.1, Lib.hid (below_next hHeld.2.2.2.2.2.2.2.2.2.2.out hb)⟩
         clear hK K
         try simp only [Act.put, q0, q1, q2]
         clear hb
         refine rT 64 (some 81) ?_ (hS := by assumption)
         try simp only [Act.put, q0, q1, q2]
         refine rT 65 (some 82) ?_ (hS := by assumption)
         try simp only [Act.put, q0, q1, q2]
         refine wpAnyH_done (by kernel_rfl) ?_ _
         have HZ := Lib.hid hHeld.2.2.2.2.2.2.2.2.2.2.out
         clear hHeld
         go_wp2_with fail
         go_roundg (N1 - (j + 1))
         case measure => omega
         case rel => exact ⟨j + 1, by go_num, by omega, rfl, take_grow HT.out HX.out (by rw [HY.out, (Sy.sameS_iff x y).1 HSX.out]), HZ⟩
     ·have hn2 : (!(x.name.toList == y.name.toList)) = true := by simp [list_ne hn]
      rw [decide_eq_false hn] at hsame
      obtain rfl : S = false := by simpa using hsame
      clear hsame hk hn KX KY KZ
      go_upto_region 6 with fail
      refine wp_region_held_drew (S := fun W => W.cell? ⟨b1, o1 + j * 5, none⟩ = some (.int .i64 x.kind) ∧ W.cell? ⟨b1, o1 + j * 5 + 1, none⟩ = some (.string x.name) ∧ W.cell? ⟨b1, o1 + j * 5 + 2, none⟩ = some (.slice px1 Ax1 kx1) ∧ W.cell? ⟨b1, o1 + j * 5 + 3, none⟩ = some (.slice py1 Ay1 ky1) ∧ W.cell? ⟨b1, o1 + j * 5 + 4, none⟩ = some (.slice pz1 Az1 kz1) ∧ W.cell? ⟨b2, o2 + j * 5, none⟩ = some (.int .i64 y.kind) ∧ W.cell? ⟨b2, o2 + j * 5 + 1, none⟩ = some (.string y.name) ∧ W.cell? ⟨b2, o2 + j * 5 + 2, none⟩ = some (.slice px2 Ax2 kx2) ∧ W.cell? ⟨b2, o2 + j * 5 + 3, none⟩ = some (.slice py2 Ay2 ky2) ∧ W.cell? ⟨b2, o2 + j * 5 + 4, none⟩ = some (.slice pz2 Az2 kz2) ∧ Hid (Below w.heap.size w W)) (by kernel_rfl) ?_ (fun hHeld => ?_)
      ·exact ⟨x0, x1, x2, x3, x4, y0, y1, y2, y3, y4, Lib.hid (HB.out).drew⟩
      clear x0 x1 x2 x3 x4 y0 y1 y2 y3 y4
      refine rT 0 (some 17) ?_ (hS := by assumption)
      try simp only [Act.put, q0, q1, q2]
      refine rT 1 (some 18) ?_ (hS := by assumption)
      try simp only [Act.put, q0, q1, q2]
      refine rT 2 (some 19) ?_ (hS := by assumption)
      try simp only [Act.put, q0, q1, q2]
      refine rT 3 (some 20) ?_ (hS := by assumption)
      try simp only [Act.put, q0, q1, q2]
      refine rT 4 (some 21) ?_ (hS := by assumption)
      try simp only [Act.put, q0, q1, q2]
      refine rT 5 (some 22) ?_ (hS := by assumption)
      try simp only [Act.put, q0, q1, q2]
      refine rT 6 (some 23) ?_ (hS := by assumption)
      try simp only [Act.put, q0, q1, q2]
      refine rT 7 (some 24) ?_ (hS := by assumption)
      try simp only [Act.put, q0, q1, q2]
      refine rT 8 (some 25) ?_ (hS := by assumption)
      try simp only [Act.put, q0, q1, q2]
      refine rT 9 (some 26) ?_ (hS := by assumption)
      try simp only [Act.put, q0, q1, q2]
      refine rT 10 (some 27) ?_ (hS := by assumption)
      try simp only [Act.put, q0, q1, q2]
      refine rT 11 (some 28) ?_ (hS := by assumption)
      try simp only [Act.put, q0, q1, q2]
      refine rT 12 (some 29) ?_ (hS := by assumption)
      try simp only [Act.put, q0, q1, q2]
      refine rT 13 (some 30) ?_ (hS := by assumption)
      try simp only [Act.put, q0, q1, q2]
      refine rT 14 (some 31) ?_ (hS := by assumption)
      try simp only [Act.put, q0, q1, q2]
      refine rT 15 (some 32) ?_ (hS := by assumption)
      try simp only [Act.put, q0, q1, q2]
      refine rT 16 (some 33) ?_ (hS := by assumption)
      try simp only [Act.put, q0, q1, q2]
      refine rT 17 (some 34) ?_ (hS := by assumption)
      try simp only [Act.put, q0, q1, q2]
      refine rT 18 (some 35) ?_ (hS := by assumption)
      try simp only [Act.put, q0, q1, q2]
      refine rT 19 (some 36) ?_ (hS := by assumption)
      try simp only [Act.put, q0, q1, q2]
      refine rT 20 (some 37) ?_ (hS := by assumption)
      try simp only [Act.put, q0, q1, q2]
      refine rT 21 (some 38) ?_ (hS := by assumption)
      try simp only [Act.put, q0, q1, q2]
      refine rT 22 (some 39) ?_ (hS := by assumption)
      try simp only [Act.put, q0, q1, q2]
      refine rT 23 (some 40) ?_ (hS := by assumption)
      try simp only [Act.put, q0, q1, q2]
      refine rT 24 (some 41) ?_ (hS := by assumption)
      try simp only [Act.put, q0, q1, q2]
      refine rK 25 (some 42) ?_ (hS := by assumption)
      try simp only [Act.put, q0, q1, q2]
      refine rK 26 (some 43) ?_ (hS := by assumption)
      try simp only [Act.put, q0, q1, q2]
      refine rK 27 (some 44) ?_ (hS := by assumption)
      try simp only [Act.put, q0, q1, q2]
      refine rK 28 (some 45) ?_ (hS := by assumption)
      try simp only [Act.put, q0, q1, q2]
      refine rK 29 (some 46) ?_ (hS := by assumption)
      try simp only [Act.put, q0, q1, q2]
      refine rK 30 (some 47) ?_ (hS := by assumption)
      try simp only [Act.put, q0, q1, q2]
      refine rK 31 (some 48) ?_ (hS := by assumption)
      try simp only [Act.put, q0, q1, q2]
      refine rK 32 (some 49) ?_ (hS := by assumption)
      try simp only [Act.put, q0, q1, q2]
      refine rK 33 (some 50) ?_ (hS := by assumption)
      try simp only [Act.put, q0, q1, q2]
      refine rK 34 (some 51) ?_ (hS := by assumption)
      try simp only [Act.put, q0, q1, q2]
      refine rK 35 (some 52) ?_ (hS := by assumption)
      try simp only [Act.put, q0, q1, q2]
      refine rK 36 (some 53) ?_ (hS := by assumption)
      try simp only [Act.put, q0, q1, q2]
      refine rT 37 (some 54) ?_ (hS := by assumption)
      try simp only [Act.put, q0, q1, q2]
      refine rT 38 (some 55) ?_ (hS := by assumption)
      try simp only [Act.put, q0, q1, q2]
      refine rK 39 (some 56) ?_ (hS := by assumption)
      try simp only [Act.put, q0, q1, q2]
      refine rK 40 (some 57) ?_ (hS := by assumption)
      try simp only [Act.put, q0, q1, q2]
      refine rK 41 (some 58) ?_ (hS := by assumption)
      try simp only [Act.put, q0, q1, q2]
      refine rK 42 (some 59) ?_ (hS := by assumption)
      try simp only [Act.put, q0, q1, q2]
      refine rK 43 (some 60) ?_ (hS := by assumption)
      try simp only [Act.put, q0, q1, q2]
      refine rK 44 (some 61) ?_ (hS := by assumption)
      try simp only [Act.put, q0, q1, q2]
      refine rK 45 (some 62) ?_ (hS := by assumption)
      try simp only [Act.put, q0, q1, q2]
      refine rK 46 (some 63) ?_ (hS := by assumption)
      try simp only [Act.put, q0, q1, q2]
      refine rK 47 (some 64) ?_ (hS := by assumption)
      try simp only [Act.put, q0, q1, q2]
      refine rK 48 (some 65) ?_ (hS := by assumption)
      try simp only [Act.put, q0, q1, q2]
      refine rK 49 (some 66) ?_ (hS := by assumption)
      try simp only [Act.put, q0, q1, q2]
      refine rK 50 (some 67) ?_ (hS := by assumption)
      try simp only [Act.put, q0, q1, q2]
      refine rT 51 (some 68) ?_ (hS := by assumption)
      try simp only [Act.put, q0, q1, q2]
      refine rT 52 (some 69) ?_ (hS := by assumption)
      try simp only [Act.put, q0, q1, q2]
      refine rK 53 (some 70) ?_ (hS := by assumption)
      try simp only [Act.put, q0, q1, q2]
      refine rK 54 (some 71) ?_ (hS := by assumption)
      try simp only [Act.put, q0, q1, q2]
      refine rK 55 (some 72) ?_ (hS := by assumption)
      try simp only [Act.put, q0, q1, q2]
      refine rK 56 (some 73) ?_ (hS := by assumption)
      try simp only [Act.put, q0, q1, q2]
      refine rK 57 (some 74) ?_ (hS := by assumption)
      try simp only [Act.put, q0, q1, q2]
      refine rK 58 (some 75) ?_ (hS := by assumption)
      try simp only [Act.put, q0, q1, q2]
      refine rK 59 (some 76) ?_ (hS := by assumption)
      try simp only [Act.put, q0, q1, q2]
      refine rK 60 (some 77) ?_ (hS := by assumption)
      try simp only [Act.put, q0, q1, q2]
      refine rK 61 (some 78) ?_ (hS := by assumption)
      try simp only [Act.put, q0, q1, q2]
      refine rK 62 (some 79) ?_ (hS := by assumption)
      try simp only [Act.put, q0, q1, q2]
      refine rK 63 (some 80) ?_ (hS := by assumption)
      try simp only [Act.put, q0, q1, q2]
      refine rK 64 (some 81) ?_ (hS := by assumption)
      try simp only [Act.put, q0, q1, q2]
      refine rT 65 (some 82) ?_ (hS := by assumption)
      try simp only [Act.put, q0, q1, q2]
      refine wpAnyH_done (by kernel_rfl) ?_ _
      have HZ := Lib.hid hHeld.2.2.2.2.2.2.2.2.2.2.out
      clear hHeld
      go_wp2_with fail
      go_ret
      refine ⟨?_, HZ.out⟩
      rw [show Sy.sameSs l1 l2 = false by
       rw [Bool.eq_false_iff]
       intro h
       rw [Sy.sameSs_iff] at h
       have h3 := HX.out
       rw [h, HY.out] at h3
       have h4 := HSX.out
       rw [Option.some.inj h3, (Sy.sameS_iff x x).2 rfl] at h4
       cases h4]
      rfl
    ·have hk2 : (x.kind != y.kind) = true := by simp [hk]
     rw [decide_eq_false hk] at hsame
     obtain rfl : S = false := by simpa using hsame
     clear hsame hk KX KY KZ
     go_upto_region 6 with fail
     refine wp_region_held_drew (S := fun W => W.cell? ⟨b1, o1 + j * 5, none⟩ = some (.int .i64 x.kind) ∧ W.cell? ⟨b1, o1 + j * 5 + 1, none⟩ = some (.string x.name) ∧ W.cell? ⟨b1, o1 + j * 5 + 2, none⟩ = some (.slice px1 Ax1 kx1) ∧ W.cell? ⟨b1, o1 + j * 5 + 3, none⟩ = some (.slice py1 Ay1 ky1) ∧ W.cell? ⟨b1, o1 + j * 5 + 4, none⟩ = some (.slice pz1 Az1 kz1) ∧ W.cell? ⟨b2, o2 + j * 5, none⟩ = some (.int .i64 y.kind) ∧ W.cell? ⟨b2, o2 + j * 5 + 1, none⟩ = some (.string y.name) ∧ W.cell? ⟨b2, o2 + j * 5 + 2, none⟩ = some (.slice px2 Ax2 kx2) ∧ W.cell? ⟨b2, o2 + j * 5 + 3, none⟩ = some (.slice py2 Ay2 ky2) ∧ W.cell? ⟨b2, o2 + j * 5 + 4, none⟩ = some (.slice pz2 Az2 kz2) ∧ Hid (Below w.heap.size w W)) (by kernel_rfl) ?_ (fun hHeld => ?_)
     ·exact ⟨x0, x1, x2, x3, x4, y0, y1, y2, y3, y4, Lib.hid (HB.out).drew⟩
     clear x0 x1 x2 x3 x4 y0 y1 y2 y3 y4
     refine rT 0 (some 17) ?_ (hS := by assumption)
     try simp only [Act.put, q0, q1, q2]
     refine rT 1 (some 18) ?_ (hS := by assumption)
     try simp only [Act.put, q0, q1, q2]
     refine rT 2 (some 19) ?_ (hS := by assumption)
     try simp only [Act.put, q0, q1, q2]
     refine rT 3 (some 20) ?_ (hS := by assumption)
     try simp only [Act.put, q0, q1, q2]
     refine rT 4 (some 21) ?_ (hS := by assumption)
     try simp only [Act.put, q0, q1, q2]
     refine rT 5 (some 22) ?_ (hS := by assumption)
     try simp only [Act.put, q0, q1, q2]
     refine rT 6 (some 23) ?_ (hS := by assumption)
     try simp only [Act.put, q0, q1, q2]
     refine rT 7 (some 24) ?_ (hS := by assumption)
     try simp only [Act.put, q0, q1, q2]
     refine rT 8 (some 25) ?_ (hS := by assumption)
     try simp only [Act.put, q0, q1, q2]
     refine rT 9 (some 26) ?_ (hS := by assumption)
     try simp only [Act.put, q0, q1, q2]
     refine rT 10 (some 27) ?_ (hS := by assumption)
     try simp only [Act.put, q0, q1, q2]
     refine rT 11 (some 28) ?_ (hS := by assumption)
     try simp only [Act.put, q0, q1, q2]
     refine rK 12 (some 29) ?_ (hS := by assumption)
     try simp only [Act.put, q0, q1, q2]
     refine rK 13 (some 30) ?_ (hS := by assumption)
     try simp only [Act.put, q0, q1, q2]
     refine rK 14 (some 31) ?_ (hS := by assumption)
     try simp only [Act.put, q0, q1, q2]
     refine rK 15 (some 32) ?_ (hS := by assumption)
     try simp only [Act.put, q0, q1, q2]
     refine rK 16 (some 33) ?_ (hS := by assumption)
     try simp only [Act.put, q0, q1, q2]
     refine rK 17 (some 34) ?_ (hS := by assumption)
     try simp only [Act.put, q0, q1, q2]
     refine rK 18 (some 35) ?_ (hS := by assumption)
     try simp only [Act.put, q0, q1, q2]
     refine rK 19 (some 36) ?_ (hS := by assumption)
     try simp only [Act.put, q0, q1, q2]
     refine rK 20 (some 37) ?_ (hS := by assumption)
     try simp only [Act.put, q0, q1, q2]
     refine rK 21 (some 38) ?_ (hS := by assumption)
     try simp only [Act.put, q0, q1, q2]
     refine rK 22 (some 39) ?_ (hS := by assumption)
     try simp only [Act.put, q0, q1, q2]
     refine rT 23 (some 40) ?_ (hS := by assumption)
     try simp only [Act.put, q0, q1, q2]
     refine rT 24 (some 41) ?_ (hS := by assumption)
     try simp only [Act.put, q0, q1, q2]
     refine rK 25 (some 42) ?_ (hS := by assumption)
     try simp only [Act.put, q0, q1, q2]
     refine rK 26 (some 43) ?_ (hS := by assumption)
     try simp only [Act.put, q0, q1, q2]
     refine rK 27 (some 44) ?_ (hS := by assumption)
     try simp only [Act.put, q0, q1, q2]
     refine rK 28 (some 45) ?_ (hS := by assumption)
     try simp only [Act.put, q0, q1, q2]
     refine rK 29 (some 46) ?_ (hS := by assumption)
     try simp only [Act.put, q0, q1, q2]
     refine rK 30 (some 47) ?_ (hS := by assumption)
     try simp only [Act.put, q0, q1, q2]
     refine rK 31 (some 48) ?_ (hS := by assumption)
     try simp only [Act.put, q0, q1, q2]
     refine rK 32 (some 49) ?_ (hS := by assumption)
     try simp only [Act.put, q0, q1, q2]
     refine rK 33 (some 50) ?_ (hS := by assumption)
     try simp only [Act.put, q0, q1, q2]
     refine rK 34 (some 51) ?_ (hS := by assumption)
     try simp only [Act.put, q0, q1, q2]
     refine rK 35 (some 52) ?_ (hS := by assumption)
     try simp only [Act.put, q0, q1, q2]
     refine rK 36 (some 53) ?_ (hS := by assumption)
     try simp only [Act.put, q0, q1, q2]
     refine rT 37 (some 54) ?_ (hS := by assumption)
     try simp only [Act.put, q0, q1, q2]
     refine rT 38 (some 55) ?_ (hS := by assumption)
     try simp only [Act.put, q0, q1, q2]
     refine rK 39 (some 56) ?_ (hS := by assumption)
     try simp only [Act.put, q0, q1, q2]
     refine rK 40 (some 57) ?_ (hS := by assumption)
     try simp only [Act.put, q0, q1, q2]
     refine rK 41 (some 58) ?_ (hS := by assumption)
     try simp only [Act.put, q0, q1, q2]
     refine rK 42 (some 59) ?_ (hS := by assumption)
     try simp only [Act.put, q0, q1, q2]
     refine rK 43 (some 60) ?_ (hS := by assumption)
     try simp only [Act.put, q0, q1, q2]
     refine rK 44 (some 61) ?_ (hS := by assumption)
     try simp only [Act.put, q0, q1, q2]
     refine rK 45 (some 62) ?_ (hS := by assumption)
     try simp only [Act.put, q0, q1, q2]
     refine rK 46 (some 63) ?_ (hS := by assumption)
     try simp only [Act.put, q0, q1, q2]
     refine rK 47 (some 64) ?_ (hS := by assumption)
     try simp only [Act.put, q0, q1, q2]
     refine rK 48 (some 65) ?_ (hS := by assumption)
     try simp only [Act.put, q0, q1, q2]
     refine rK 49 (some 66) ?_ (hS := by assumption)
     try simp only [Act.put, q0, q1, q2]
     refine rK 50 (some 67) ?_ (hS := by assumption)
     try simp only [Act.put, q0, q1, q2]
     refine rT 51 (some 68) ?_ (hS := by assumption)
     try simp only [Act.put, q0, q1, q2]
     refine rT 52 (some 69) ?_ (hS := by assumption)
     try simp only [Act.put, q0, q1, q2]
     refine rK 53 (some 70) ?_ (hS := by assumption)
     try simp only [Act.put, q0, q1, q2]
     refine rK 54 (some 71) ?_ (hS := by assumption)
     try simp only [Act.put, q0, q1, q2]
     refine rK 55 (some 72) ?_ (hS := by assumption)
     try simp only [Act.put, q0, q1, q2]
     refine rK 56 (some 73) ?_ (hS := by assumption)
     try simp only [Act.put, q0, q1, q2]
     refine rK 57 (some 74) ?_ (hS := by assumption)
     try simp only [Act.put, q0, q1, q2]
     refine rK 58 (some 75) ?_ (hS := by assumption)
     try simp only [Act.put, q0, q1, q2]
     refine rK 59 (some 76) ?_ (hS := by assumption)
     try simp only [Act.put, q0, q1, q2]
     refine rK 60 (some 77) ?_ (hS := by assumption)
     try simp only [Act.put, q0, q1, q2]
     refine rK 61 (some 78) ?_ (hS := by assumption)
     try simp only [Act.put, q0, q1, q2]
     refine rK 62 (some 79) ?_ (hS := by assumption)
     try simp only [Act.put, q0, q1, q2]
     refine rK 63 (some 80) ?_ (hS := by assumption)
     try simp only [Act.put, q0, q1, q2]
     refine rK 64 (some 81) ?_ (hS := by assumption)
     try simp only [Act.put, q0, q1, q2]
     refine rT 65 (some 82) ?_ (hS := by assumption)
     try simp only [Act.put, q0, q1, q2]
     refine wpAnyH_done (by kernel_rfl) ?_ _
     have HZ := Lib.hid hHeld.2.2.2.2.2.2.2.2.2.2.out
     clear hHeld
     go_wp2_with fail
     go_ret
     refine ⟨?_, HZ.out⟩
     rw [show Sy.sameSs l1 l2 = false by
      rw [Bool.eq_false_iff]
      intro h
      rw [Sy.sameSs_iff] at h
      have h3 := HX.out
      rw [h, HY.out] at h3
      have h4 := HSX.out
      rw [Option.some.inj h3, (Sy.sameS_iff x x).2 rfl] at h4
      cases h4]
     rfl
   ·obtain rfl : j = N1 := by omega
    go_wp2_with fail
    go_ret
    refine ⟨?_, HB.out⟩
    rw [(Sy.sameSs_iff l1 l2).2 (by have h := HT.out; rw [List.take_of_length_le (by rw [HN1.out]; exact Nat.le_refl _), List.take_of_length_le (by rw [HN2.out]; exact Nat.le_refl _)] at h; exact h)]
    rfl
 ·have hf : Sy.sameSs l1 l2 = false := by
   rw [Bool.eq_false_iff]
   intro h
   rw [Sy.sameSs_iff] at h
   exact hne (by rw [← HN1.out, ← HN2.out, h])
  rw [hf]
  clear hf
  have hne2 : ¬ (N1 : Int) = (N2 : Int) := by omega
  go_enter Tryz.func31, Tryz.ntmps31
  go_wp2_with fail
  go_ret
  exact ⟨rfl, Below.refl _ _⟩
end Go.Proofs.YtdckddkalgnlpaaGreatDoor
