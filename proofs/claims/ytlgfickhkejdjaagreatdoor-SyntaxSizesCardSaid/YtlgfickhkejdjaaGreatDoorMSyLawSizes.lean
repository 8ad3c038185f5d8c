/-
  SyntaxSizes, walked: sizes add up.
-/
import Derived.Test.YtlgfickhkejdjaaGreatDoorMSzA
import Derived.Test.YtlgfickhkejdjaaGreatDoorMSyF
namespace Go.Proofs.YtlgfickhkejdjaaGreatDoor
open Go.RowKit Go.Maps

theorem slC_one {w : World} {b o N c j : Nat} {l : List Tr.C} {m : Tr.C} (h : SlC w (.slice (some ⟨b, o, none⟩) N c) l) (hm : l[j]? = some m) : N = l.length ∧ N ≤ c ∧ c ≤ maxLen ∧ SlC w (.slice (some ⟨b, o + j * 4, none⟩) 1 (c - j)) [m] := by
  obtain ⟨p, c', e, h1, h2, h3⟩ := h
  injection e with e1 e2 e3
  subst e1
  subst e2
  subst e3
  have hlt := (List.getElem?_eq_some_iff.1 hm).1
  obtain ⟨k1, k2⟩ := h2 (fun h => by rw [h] at hlt; simp at hlt)
  obtain ⟨hn, b', o', x, y, e, hb, hc, hx, hy⟩ := h3 j m hm
  cases e
  refine ⟨rfl, k1, k2, some ⟨b, o + j * 4, none⟩, c - j, rfl, by simp; unfold maxLen; omega, fun _ => ⟨by simp; omega, by omega⟩, fun i m' hi => ?_⟩
  obtain rfl : i = 0 := by have := (List.getElem?_eq_some_iff.1 hi).1; simpa using this
  cases hi
  exact ⟨hn, b, o + j * 4, x, y, rfl, hb, by simpa using hc, hx, hy⟩
theorem SlC.some {w : World} {p : Option Addr} {N c j : Nat} {l : List Tr.C} {m : Tr.C} (h : SlC w (.slice p N c) l) (hm : l[j]? = some m) : ∃ b o, p = some ⟨b, o, none⟩ := by
  obtain ⟨p', c', e, h1, h2, h3⟩ := h
  injection e with e1 e2 e3
  subst e1
  obtain ⟨hn, b', o', x, y, e, _⟩ := h3 j m hm
  exact ⟨b', o', e⟩
theorem sizeP_take {l : List Tr.C} {j : Nat} {m : Tr.C} (h : l[j]? = some m) : Sy.sizeP (l.take (j + 1)) = Sy.sizeP (l.take j) + Sy.sizeC m := by
  unfold Sy.sizeP
  exact sum_take Sy.sizeC h
theorem sizeP_le (l : List Tr.C) (j : Nat) : Sy.sizeP (l.take j) ≤ Sy.sizeP l := by
  unfold Sy.sizeP
  exact sum_le Sy.sizeC l j
theorem form3 {v : Value} {n : Nat} (h : ∃ p c, v = .slice p n c) : ∃ p m c, v = .slice p m c := by
  obtain ⟨p, c, h⟩ := h
  exact ⟨p, n, c, h⟩
theorem len_sizeP (l : List Tr.C) : l.length ≤ Sy.sizeP l := by
  unfold Sy.sizeP
  induction l with
  | nil => exact Nat.zero_le _
  | cons c r ih =>
    rw [List.map_cons, List.sum_cons, List.length_cons]
    have : 1 ≤ Sy.sizeC c := by unfold Sy.sizeC; omega
    omega
theorem sizeP_one (m : Tr.C) : Sy.sizeP [m] = Sy.sizeC m := by simp [Sy.sizeP]

set_option maxRecDepth 100000 in
set_option maxHeartbeats 20000000 in
theorem law_sizes (v0 : Value) (l0 : List Tr.C) (e1 : Tr.E) (a1 : Value) (w : World) (hE : SyEnv w) (h0 : SlC w v0 l0) (h1 : BdE e1 ∧ SlE w a1 e1.args) :
    Calls Tryz.prog 9 #[.agg #[v0], exprV e1 a1] w fun r w' => r = .returned (.bool true) ∧ Below w.heap.size w w' := by
  have hi0 := h0.i64
  obtain ⟨p0, c0, rfl⟩ := h0.form
  obtain ⟨N0, hN0⟩ : ∃ q, l0.length = q := ⟨_, rfl⟩
  rw [hN0] at h0 ⊢
  obtain ⟨hbd1, h1⟩ := h1
  have hi1 : Sy.i64E e1 := (Sy.i64E_eq e1).2 ⟨hbd1.int, h1.i64⟩
  obtain ⟨p1, c1, rfl, _⟩ := h1.form
  obtain ⟨N1, hN1⟩ : ∃ q, e1.args.length = q := ⟨_, rfl⟩
  rw [hN1] at h1 ⊢
  have hbc := box2_of w #[.slice p0 N0 c0] #[.int .i64 e1.kind, .int .i64 e1.op, .int .i64 e1.int, .string e1.name, .bool e1.at_, .slice p1 N1 c1] 32 24
  obtain ⟨w1, hw1⟩ : ∃ q, q = (w.alloc (.cells #[.slice p0 N0 c0] 32)).alloc (.cells #[.int .i64 e1.kind, .int .i64 e1.op, .int .i64 e1.int, .string e1.name, .bool e1.at_, .slice p1 N1 c1] 24) := ⟨_, rfl⟩
  rw [← hw1] at hbc
  obtain ⟨hb1, hc1⟩ := hbc
  have HW1 := Lib.hid hw1
  have HB1 := Lib.hid hb1
  have HC := Lib.hid hc1
  have hez := hE.keep hb1
  have hs0 := h0.keep hb1
  have hs1 := h1.keep hb1
  have KA : Hid (∀ W, Below w1.heap.size w1 W → Calls Tryz.prog 11 #[] W fun r w' => r = .returned (.bool true) ∧ Below W.heap.size W w') := fun W hb => awake38_any W (hez.keep hb)
  have KF0 : Hid (∀ W, Below w1.heap.size w1 W → Calls Tryz.prog 19 #[.agg #[.slice p0 N0 c0], .int .i64 120] W fun r w' => r = .returned (.bool (Tr.fewP l0 120)) ∧ Below W.heap.size W w') := fun W hb => few_any _ l0 120 W (hs0.keep hb) (by decide) (by decide)
  have KF1 : Hid (∀ W, Below w1.heap.size w1 W → Calls Tryz.prog 12 #[.agg #[.int .i64 e1.kind, .int .i64 e1.op, .int .i64 e1.int, .string e1.name, .bool e1.at_, .slice p1 N1 c1], .int .i64 60] W fun r w' => r = .returned (.bool (Tr.fewE e1 60)) ∧ Below W.heap.size W w') := fun W hb => fewExpr_any e1 _ 60 W hbd1 (hs1.keep hb) (by decide) (by decide)
  have hsm : Tr.fewP l0 120 = true → Sy.sizeP l0 ≤ 1000 := fun h => (Sy.prog_small h (by decide) hi0).2.1
  have hsz : Tr.fewE e1 60 = true → Sy.sizeE e1 ≤ 1000 := fun h => (Sy.expr_small h (by decide) (by decide) hi1).2.1
  have KZ : Hid (Sy.sizeP l0 ≤ 1000 → ∀ W, Below w1.heap.size w1 W → Calls Tryz.prog 24 #[.agg #[.slice p0 N0 c0]] W fun r w' => r = .returned (.int .i64 (Sy.sizeP l0 : Nat)) ∧ Below W.heap.size W w') := fun hz W hb => size_any _ l0 W (hs0.keep hb) (by omega)
  have KR : Hid (Sy.sizeE e1 ≤ 1000 → ∀ W, Below w1.heap.size w1 W → Calls Tryz.prog 32 #[.agg #[.int .i64 e1.kind, .int .i64 e1.op, .int .i64 e1.int, .string e1.name, .bool e1.at_, .slice p1 N1 c1]] W fun r w' => r = .returned (.int .i64 (Sy.sizeE e1 : Nat)) ∧ Below W.heap.size W w') := fun hz W hb => refExprSize_any _ e1 _ _ _ W (Nat.le_refl _) hN1 (hs1.keep hb) (by omega)
  have HS0 := Lib.hid hs0
  have HS1 := Lib.hid hs1
  have HN0 := Lib.hid hN0
  have HBD := Lib.hid hbd1
  have HSM := Lib.hid hsm
  have HSZ := Lib.hid hsz
  have hn6 : N0 ≤ 9223372036854775807 := by
    obtain ⟨p, c, e, h1, _⟩ := h0
    rw [hN0] at h1
    unfold maxLen at h1
    exact h1
  clear hE h0 h1 hN0 hN1 hw1 hb1 hc1 hez hs0 hs1 hi0 hi1 hbd1 hsm hsz
  unfold exprV
  cases hq0 : Tr.fewP l0 120
  · rw [hq0] at KF0
    clear hq0
    go_enter Tryz.func9, Tryz.ntmps9
    go_upto_region 1 with fail
    rw [← HW1.out]
    have HR := Lib.hid (Below.refl w1.heap.size w1)
    go_wp2_with fail
    refine (KA.out _ HR.out).mono ?_
    rintro r wy ⟨rfl, hby⟩
    have HR := Lib.hid (below_next HR.out hby)
    clear hby
    have d0_0 := ((HC.out _ HR.out).1 0 _ rfl)
    go_wp2_with fail
    refine (KF0.out _ HR.out).mono ?_
    rintro r wy ⟨rfl, hby⟩
    have HR := Lib.hid (below_next HR.out hby)
    clear hby d0_0
    go_wp2_with fail
    go_ret
    exact ⟨rfl, below_next HB1.out HR.out⟩
  · have hsm := HSM.out hq0
    rw [hq0] at KF0
    clear hq0
    cases hq1 : Tr.fewE e1 60
    · rw [hq1] at KF1
      clear hq1
      go_enter Tryz.func9, Tryz.ntmps9
      go_upto_region 1 with fail
      rw [← HW1.out]
      have HR := Lib.hid (Below.refl w1.heap.size w1)
      go_wp2_with fail
      refine (KA.out _ HR.out).mono ?_
      rintro r wy ⟨rfl, hby⟩
      have HR := Lib.hid (below_next HR.out hby)
      clear hby
      have d0_0 := ((HC.out _ HR.out).1 0 _ rfl)
      go_wp2_with fail
      refine (KF0.out _ HR.out).mono ?_
      rintro r wy ⟨rfl, hby⟩
      have HR := Lib.hid (below_next HR.out hby)
      clear hby d0_0
      have d1_0 := ((HC.out _ HR.out).2 0 _ rfl)
      have d1_1 := ((HC.out _ HR.out).2 1 _ rfl)
      have d1_2 := ((HC.out _ HR.out).2 2 _ rfl)
      have d1_3 := ((HC.out _ HR.out).2 3 _ rfl)
      have d1_4 := ((HC.out _ HR.out).2 4 _ rfl)
      have d1_5 := ((HC.out _ HR.out).2 5 _ rfl)
      go_wp2_with fail
      refine (KF1.out _ HR.out).mono ?_
      rintro r wy ⟨rfl, hby⟩
      have HR := Lib.hid (below_next HR.out hby)
      clear hby d1_0 d1_1 d1_2 d1_3 d1_4 d1_5
      go_wp2_with fail
      go_ret
      exact ⟨rfl, below_next HB1.out HR.out⟩
    · have hsz := HSZ.out hq1
      rw [hq1] at KF1
      clear hq1
      have KZ := Lib.hid (KZ.out hsm)
      have KR := Lib.hid (KR.out hsz)
      have HSM := Lib.hid hsm
      have HSZ := Lib.hid hsz
      clear hsm hsz
      go_enter Tryz.func9, Tryz.ntmps9
      go_upto_region 1 with fail
      rw [← HW1.out]
      have HR := Lib.hid (Below.refl w1.heap.size w1)
      go_wp2_with fail
      refine (KA.out _ HR.out).mono ?_
      rintro r wy ⟨rfl, hby⟩
      have HR := Lib.hid (below_next HR.out hby)
      clear hby
      have d0_0 := ((HC.out _ HR.out).1 0 _ rfl)
      go_wp2_with fail
      refine (KF0.out _ HR.out).mono ?_
      rintro r wy ⟨rfl, hby⟩
      have HR := Lib.hid (below_next HR.out hby)
      clear hby d0_0
      have d1_0 := ((HC.out _ HR.out).2 0 _ rfl)
      have d1_1 := ((HC.out _ HR.out).2 1 _ rfl)
      have d1_2 := ((HC.out _ HR.out).2 2 _ rfl)
      have d1_3 := ((HC.out _ HR.out).2 3 _ rfl)
      have d1_4 := ((HC.out _ HR.out).2 4 _ rfl)
      have d1_5 := ((HC.out _ HR.out).2 5 _ rfl)
      go_wp2_with fail
      refine (KF1.out _ HR.out).mono ?_
      rintro r wy ⟨rfl, hby⟩
      have HR := Lib.hid (below_next HR.out hby)
      clear hby d1_0 d1_1 d1_2 d1_3 d1_4 d1_5
      go_wp2_with fail
      go_loopg [5, 6] N0 (fun g s5 s6 wr => ∃ (j M : Nat), s6 = .int .i64 j ∧ j ≤ N0 ∧ g = N0 - j ∧ s5 = .int .i64 M ∧ Hid (M = Sy.sizeP (l0.take j)) ∧ Hid (Below w1.heap.size w1 wr))
      case atStart => exact ⟨0, 0, rfl, Nat.zero_le _, rfl, rfl, Lib.hid rfl, HR⟩
      case round =>
        obtain ⟨j, M, rfl, hj, rfl, rfl, HM, HR⟩ := hrel
        by_cases hlt : j < N0
        · obtain ⟨m, hx⟩ : ∃ x, l0[j]? = some x := ⟨_, List.getElem?_eq_getElem (by rw [HN0.out]; exact hlt)⟩
          obtain ⟨b, o, rfl⟩ := HS0.out.some hx
          obtain ⟨hNl, k1, k2, hone⟩ := slC_one HS0.out hx
          clear hNl
          have hcj : ¬ c0 = j := by omega
          have hb1 : (0 : Int) ≤ (j : Int) := by omega
          have hb2 : (j : Int) + 1 ≤ (c0 : Int) := by omega
          have hjc : j + 1 ≤ c0 := by omega
          have htk := sizeP_take hx
          have hle := sizeP_le l0 (j + 1)
          rw [htk, ← HM.out] at hle
          have hsm := HSM.out
          obtain ⟨Z, hZ⟩ : ∃ q, Sy.sizeC m = q := ⟨_, rfl⟩
          rw [hZ] at htk hle
          have KO : Hid (∀ W, Below w1.heap.size w1 W → Calls Tryz.prog 24 #[.agg #[.slice (some ⟨b, o + j * 4, none⟩) 1 (c0 - j)]] W fun r w' => r = .returned (.int .i64 (Z : Nat)) ∧ Below W.heap.size W w') := fun W hb => by
            have h := size_any _ [m] W (hone.keep hb) (by rw [sizeP_one, hZ]; omega)
            rw [sizeP_one, hZ] at h
            exact h
          have HTK : Hid (M + Z = Sy.sizeP (l0.take (j + 1))) := by rw [htk, ← HM.out]; exact Lib.hid rfl
          have hm1 : M + Z ≤ 1000 := by omega
          have hc6 : c0 ≤ 9223372036854775807 := by unfold maxLen at k2; exact k2
          clear hx hone htk hle hsm hZ k2
          have d0_0 := ((HC.out _ HR.out).1 0 _ rfl)
          go_wp2_with fail
          refine (KO.out _ HR.out).mono ?_
          rintro r wy ⟨rfl, hby⟩
          have HR := Lib.hid (below_next HR.out hby)
          clear hby d0_0
          go_wp2_with fail
          go_roundg (N0 - (j + 1))
          case measure => omega
          case rel => exact ⟨j + 1, M + Z, by go_num, by omega, rfl, by go_num, HTK, HR⟩
        · obtain rfl : j = N0 := by omega
          have hfull : l0.take j = l0 := List.take_of_length_le (by rw [HN0.out]; exact Nat.le_refl _)
          have hm := HM.out
          rw [hfull] at hm
          have HMM := Lib.hid hm
          clear hfull hm HM
          obtain ⟨rows, hrows, hread, hsrc⟩ := HS0.out.rows
          have HRN := Lib.hid (show rows.length = j by rw [← HN0.out, ← hrows, List.length_map])
          have HROWS := Lib.hid hrows
          have HREAD := Lib.hid hread
          have HSRC := Lib.hid hsrc
          clear hrows hread hsrc
          have hlen : j ≤ 1000 := by
            have h1 := HSM.out
            have h2 : l0.length ≤ Sy.sizeP l0 := len_sizeP l0
            rw [HN0.out] at h2
            omega
          obtain ⟨i0, hinf, hz0, hz1, hz2⟩ := info_parts classInfo
          have HM := HMM.out
          have hm6 : M ≤ 1000 := by
            have h1 := HSM.out
            omega
          clear HM
          have d0_0 := ((HC.out _ HR.out).1 0 _ rfl)
          have d1_0 := ((HC.out _ HR.out).2 0 _ rfl)
          have d1_1 := ((HC.out _ HR.out).2 1 _ rfl)
          have d1_2 := ((HC.out _ HR.out).2 2 _ rfl)
          have d1_3 := ((HC.out _ HR.out).2 3 _ rfl)
          have d1_4 := ((HC.out _ HR.out).2 4 _ rfl)
          have d1_5 := ((HC.out _ HR.out).2 5 _ rfl)
          go_upto_region 10 with fail
          go_cut [7] (fun s7 wx => ∃ (PB c8 : Nat) (p8 : Option Addr), s7 = .pointer (some ⟨PB, 0, none⟩) ∧ Hid (wx.cell? ⟨PB, 0, none⟩ = some (.slice p8 (j + 1) c8)) ∧ Hid (SlC wx (.slice p8 (j + 1) c8) (l0 ++ [zClass e1])) ∧ Hid (Below w1.heap.size w1 wx))
          case first =>
            obtain ⟨w5, hw5⟩ : ∃ q, q = wr.drew := ⟨_, rfl⟩
            have hd5 : Hid (Below w1.heap.size w1 w5) := by rw [hw5]; exact (HR.out).drew
            refine wp_region_held_drew (S := fun W => W.cell? ⟨w.heap.size, 0, none⟩ = some (.slice p0 j c0) ∧ W.cell? ⟨w.heap.size + 1, 0, none⟩ = some (.int .i64 e1.kind) ∧ W.cell? ⟨w.heap.size + 1, 1, none⟩ = some (.int .i64 e1.op) ∧ W.cell? ⟨w.heap.size + 1, 2, none⟩ = some (.int .i64 e1.int) ∧ W.cell? ⟨w.heap.size + 1, 3, none⟩ = some (.string e1.name) ∧ W.cell? ⟨w.heap.size + 1, 4, none⟩ = some (.bool e1.at_) ∧ W.cell? ⟨w.heap.size + 1, 5, none⟩ = some (.slice p1 N1 c1) ∧ Hid (Below w1.heap.size w1 W)) (by kernel_rfl) ?_ (fun hHeld => ?_)
            · exact ⟨d0_0, d1_0, d1_1, d1_2, d1_3, d1_4, d1_5, Lib.hid (HR.out).drew⟩
            have HH := Lib.hid hHeld
            clear hHeld
            rw [← hw5] at HH ⊢
            have hHeld := HH.out
            clear HH
            clear d0_0 d1_0 d1_1 d1_2 d1_3 d1_4 d1_5
            refine wpAnyH_take (i := 1) (oi := ⟨some 36, _, _, _, _, _⟩) (v := ?_) rfl (by kernel_rfl) (by kernel_rfl) (by kernel_rfl) (fun _ _ _ h => h) (Or.inl ⟨by rfl, ?_⟩) (by assumption) ?_
            rotate_left
            · (intro w hSw; (try dsimp only at hSw); go_simp; (try with_reducible rfl))
            try simp only [Act.put, List.setIfInBounds_toArray, List.set_cons_zero, List.set_cons_succ]
            refine wpAnyH_take (i := 2) (oi := ⟨some 37, _, _, _, _, _⟩) (v := ?_) rfl (by kernel_rfl) (by kernel_rfl) (by kernel_rfl) (fun _ _ _ h => h) (Or.inl ⟨by rfl, ?_⟩) (by assumption) ?_
            rotate_left
            · (intro w hSw; (try dsimp only at hSw); go_simp; (try with_reducible rfl))
            try simp only [Act.put, List.setIfInBounds_toArray, List.set_cons_zero, List.set_cons_succ]
            refine wpAnyH_take (i := 5) (oi := ⟨some 40, _, _, _, _, _⟩) (v := ?_) rfl (by kernel_rfl) (by kernel_rfl) (by kernel_rfl) (fun _ _ _ h => h) (Or.inl ⟨by rfl, ?_⟩) (by assumption) ?_
            rotate_left
            · (intro w hSw; (try dsimp only at hSw); go_simp; (try with_reducible rfl))
            try simp only [Act.put, List.setIfInBounds_toArray, List.set_cons_zero, List.set_cons_succ]
            refine wpAnyH_take (i := 7) (oi := ⟨some 42, _, _, _, _, _⟩) (v := ?_) rfl (by kernel_rfl) (by kernel_rfl) (by kernel_rfl) (fun _ _ _ h => h) (Or.inl ⟨by rfl, ?_⟩) (by assumption) ?_
            rotate_left
            · (intro w hSw; (try dsimp only at hSw); go_simp; (try with_reducible rfl))
            try simp only [Act.put, List.setIfInBounds_toArray, List.set_cons_zero, List.set_cons_succ]
            have HK5 : Hid (∀ W, Below w5.heap.size w5 W → (fun W => W.cell? ⟨w.heap.size, 0, none⟩ = some (.slice p0 j c0) ∧ W.cell? ⟨w.heap.size + 1, 0, none⟩ = some (.int .i64 e1.kind) ∧ W.cell? ⟨w.heap.size + 1, 1, none⟩ = some (.int .i64 e1.op) ∧ W.cell? ⟨w.heap.size + 1, 2, none⟩ = some (.int .i64 e1.int) ∧ W.cell? ⟨w.heap.size + 1, 3, none⟩ = some (.string e1.name) ∧ W.cell? ⟨w.heap.size + 1, 4, none⟩ = some (.bool e1.at_) ∧ W.cell? ⟨w.heap.size + 1, 5, none⟩ = some (.slice p1 N1 c1) ∧ Hid (Below w1.heap.size w1 W)) W) := fun W hb => ⟨cell_keep' hb hHeld.1, cell_keep' hb hHeld.2.1, cell_keep' hb hHeld.2.2.1, cell_keep' hb hHeld.2.2.2.1, cell_keep' hb hHeld.2.2.2.2.1, cell_keep' hb hHeld.2.2.2.2.2.1, cell_keep' hb hHeld.2.2.2.2.2.2.1, Lib.hid (below_next hHeld.2.2.2.2.2.2.2.out hb)⟩
            clear hHeld hw5
            refine wpAnyH_steps (J := fun b a W => b 1 = true ∧ b 2 = true ∧ b 5 = true ∧ b 7 = true ∧ ∃ s : Nat → Value, a = ({ tmps := #[.agg #[.slice p0 j c0], .agg #[.int .i64 e1.kind, .int .i64 e1.op, .int .i64 e1.int, .string e1.name, .bool e1.at_, .slice p1 N1 c1], .pointer (some ⟨w.heap.size, 0, none⟩), .pointer (some ⟨w.heap.size + 1, 0, none⟩), .bool false, .int .i64 M, .int .i64 j, s 7, .bool true, .bool false, .agg #[.slice p0 j c0], .bool true, .bool false, .bool false, .agg #[.int .i64 e1.kind, .int .i64 e1.op, .int .i64 e1.int, .string e1.name, .bool e1.at_, .slice p1 N1 c1], .bool true, .bool false, .bool false, .int .i64 j, .pointer (some ⟨w.heap.size, 0, none⟩), .slice p0 j c0, .int .i64 j, .bool false, u23, u24, u25, u26, u27, u28, u29, u30, u31, u32, u33, u34, s 35, .pointer (some ⟨w.heap.size, 0, none⟩), .slice p0 j c0, s 38, s 39, .agg #[.int .i64 e1.kind, .int .i64 e1.op, .int .i64 e1.int, .string e1.name, .bool e1.at_, .slice p1 N1 c1], s 41, .agg #[.int .i64 9, .string ⟨#[]⟩, .slice none 0 0, .slice none 0 0, .slice none 0 0], s 43, s 44, s 45, s 46, s 47, s 48, s 49, s 50, s 51, undef, undef, undef, undef, undef, undef, undef, undef, undef, undef, undef, undef, undef, undef], defers := [] } : Act) ∧ SzJ e1 rows #[.int .i64 e1.kind, .int .i64 e1.op, .int .i64 e1.int, .string e1.name, .bool e1.at_, .slice p1 N1 c1] w5 b s W) (by kernel_rfl) ?_ ?_ ?_ _ _ _ _ rfl (by decide) ?_
            · rintro b a W ⟨_, _, _, _, s, _, J⟩
              exact HK5.out _ J.below
            · intro b a W hJ i hi hb hd
              obtain ⟨b1, b2, b5, b7, s, rfl, J⟩ := hJ
              have hlt : i < 19 := hi
              have hc : i = 0 ∨ i = 1 ∨ i = 2 ∨ i = 3 ∨ i = 4 ∨ i = 5 ∨ i = 6 ∨ i = 7 ∨ i = 8 ∨ i = 9 ∨ i = 10 ∨ i = 11 ∨ i = 12 ∨ i = 13 ∨ i = 14 ∨ i = 15 ∨ i = 16 ∨ i = 17 ∨ i = 18 := by omega
              rcases hc with rfl | rfl | rfl | rfl | rfl | rfl | rfl | rfl | rfl | rfl | rfl | rfl | rfl | rfl | rfl | rfl | rfl | rfl | rfl
              · clear hd
                refine wpOp_step (o := ⟨some 35, _, _, _, _, _⟩) rfl (fun K hK => ?_)
                have HJ := Lib.hid J
                have HB := Lib.hid hb
                clear J hb
                have HK := Lib.hid hK
                clear hK
                go_simp
                have J := HJ.out
                have hb := HB.out
                refine HK.out _ _ ?_
                exact ⟨b1, b2, b5, b7, updS s 35 (.slice (some ⟨W.heap.size, 0, none⟩) 0 0), rfl, szj_0 J hb⟩
              · rw [b1] at hb
                cases hb
              · rw [b2] at hb
                cases hb
              · simp [depsB, Region.binds] at hd
                have d0 : b 0 = true := by simp only [hd]
                clear hd
                refine wpOp_step (o := ⟨some 38, _, _, _, _, _⟩) rfl (fun K hK => ?_)
                refine step_append_src cCells 4 cCells_len (by rfl) _ _ 30 (by rfl) w5.heap.size 52 i0 (.agg #[.string ⟨#[]⟩, .bool false, .slice none 0 0, .slice none 0 0]) 72 Tryz.underlying30 hinf hz0 hz1 hz2 (by rfl) (by decide) _ _ [] rows (by rfl) (by rfl) (J.f0 d0 hb) ((HSRC.out.keep hd5.out).keep J.below) (cCells_one HREAD.out) (by rw [HRN.out]; unfold maxLen; simp; omega) (by rw [HRN.out]; simp; omega) (by exact J.below.size) ?_
                intro v W' ho hg
                refine hK _ _ ?_
                try simp only [Act.put, List.setIfInBounds_toArray, List.set_cons_zero, List.set_cons_succ]
                exact ⟨b1, b2, b5, b7, updS s 38 v, rfl, szj_3 J hb d0 ho hg⟩
              · clear hd
                refine wpOp_step (o := ⟨some 39, _, _, _, _, _⟩) rfl (fun K hK => ?_)
                have HJ := Lib.hid J
                have HB := Lib.hid hb
                clear J hb
                have HK := Lib.hid hK
                clear hK
                go_simp
                have J := HJ.out
                have hb := HB.out
                refine HK.out _ _ ?_
                exact ⟨b1, b2, b5, b7, updS s 39 (.slice (some ⟨W.heap.size, 0, none⟩) 2 2), rfl, szj_4 J hb⟩
              · rw [b5] at hb
                cases hb
              · clear hd
                refine wpOp_step (o := ⟨some 41, _, _, _, _, _⟩) rfl (fun K hK => ?_)
                have HJ := Lib.hid J
                have HB := Lib.hid hb
                clear J hb
                have HK := Lib.hid hK
                clear hK
                go_simp
                have J := HJ.out
                have hb := HB.out
                refine HK.out _ _ ?_
                exact ⟨b1, b2, b5, b7, updS s 41 (.slice (some ⟨W.heap.size, 0, none⟩) 1 1), rfl, szj_6 J hb⟩
              · rw [b7] at hb
                cases hb
              · clear hd
                refine wpOp_step (o := ⟨some 43, _, _, _, _, _⟩) rfl (fun K hK => ?_)
                have HJ := Lib.hid J
                have HB := Lib.hid hb
                clear J hb
                have HK := Lib.hid hK
                clear hK
                go_simp
                have J := HJ.out
                have hb := HB.out
                refine HK.out _ _ ?_
                exact ⟨b1, b2, b5, b7, updS s 43 (.slice (some ⟨W.heap.size, 0, none⟩) 1 1), rfl, szj_8 J hb⟩
              · simp [depsB, Region.binds] at hd
                have d6 : b 6 = true := by simp only [hd]
                have d8 : b 8 = true := by simp only [hd]
                clear hd
                refine wpOp_step (o := ⟨some 44, _, _, _, _, _⟩) rfl (fun K hK => ?_)
                have HJ := Lib.hid J
                have HB := Lib.hid hb
                obtain ⟨g41, e41, _⟩ := J.f6 d6
                obtain ⟨g43, e43, _⟩ := J.f8 d8
                clear J hb
                have HK := Lib.hid hK
                clear hK
                have G41 := Lib.hid e41
                have G43 := Lib.hid e43
                go_simp
                rw [← G43.out, ← G41.out]
                clear e41 e43
                have J := HJ.out
                have hb := HB.out
                refine HK.out _ _ ?_
                exact ⟨b1, b2, b5, b7, updS s 44 (.agg #[.int .i64 4, .string ⟨#[]⟩, s 41, s 43, .slice none 0 0]), rfl, szj_9 J hb d6 d8⟩
              · simp [depsB, Region.binds] at hd
                have d9 : b 9 = true := by simp only [hd]
                clear hd
                refine wpOp_step (o := ⟨some 45, _, _, _, _, _⟩) rfl (fun K hK => ?_)
                have HJ := Lib.hid J
                have HB := Lib.hid hb
                have e44 := J.f9 d9
                obtain ⟨g41, e41, _⟩ := J.f6 (J.c_9_6 d9)
                obtain ⟨g43, e43, _⟩ := J.f8 (J.c_9_8 d9)
                clear J hb
                have HK := Lib.hid hK
                clear hK
                have G44 := Lib.hid e44
                have G41 := Lib.hid e41
                have G43 := Lib.hid e43
                go_simp
                rw [← G43.out, ← G41.out, ← G44.out]
                clear e44 e41 e43
                have J := HJ.out
                have hb := HB.out
                refine HK.out _ _ ?_
                exact ⟨b1, b2, b5, b7, updS s 45 (.slice (some ⟨W.heap.size, 0, none⟩) 1 1), rfl, szj_10 J hb d9⟩
              · simp [depsB, Region.binds] at hd
                have d4 : b 4 = true := by simp only [hd]
                have d10 : b 10 = true := by simp only [hd]
                clear hd
                refine wpOp_step (o := ⟨some 46, _, _, _, _, _⟩) rfl (fun K hK => ?_)
                have HJ := Lib.hid J
                have HB := Lib.hid hb
                obtain ⟨g39, e39, _⟩ := J.f4 d4
                obtain ⟨g45, e45, _⟩ := J.f10 d10
                clear J hb
                have HK := Lib.hid hK
                clear hK
                have G39 := Lib.hid e39
                have G45 := Lib.hid e45
                go_simp
                rw [← G45.out, ← G39.out]
                clear e39 e45
                have J := HJ.out
                have hb := HB.out
                refine HK.out _ _ ?_
                exact ⟨b1, b2, b5, b7, updS s 46 (.agg #[.string ⟨#[109]⟩, s 39, s 45]), rfl, szj_11 J hb d4 d10⟩
              · simp [depsB, Region.binds] at hd
                have d11 : b 11 = true := by simp only [hd]
                clear hd
                refine wpOp_step (o := ⟨some 47, _, _, _, _, _⟩) rfl (fun K hK => ?_)
                have HJ := Lib.hid J
                have HB := Lib.hid hb
                have e46 := J.f11 d11
                obtain ⟨g39, e39, _⟩ := J.f4 (J.c_11_4 d11)
                obtain ⟨g45, e45, _⟩ := J.f10 (J.c_11_10 d11)
                clear J hb
                have HK := Lib.hid hK
                clear hK
                have G46 := Lib.hid e46
                have G39 := Lib.hid e39
                have G45 := Lib.hid e45
                go_simp
                rw [← G45.out, ← G39.out, ← G46.out]
                clear e46 e39 e45
                have J := HJ.out
                have hb := HB.out
                refine HK.out _ _ ?_
                exact ⟨b1, b2, b5, b7, updS s 47 (.slice (some ⟨W.heap.size, 0, none⟩) 1 1), rfl, szj_12 J hb d11⟩
              · simp [depsB, Region.binds] at hd
                have d12 : b 12 = true := by simp only [hd]
                clear hd
                refine wpOp_step (o := ⟨some 48, _, _, _, _, _⟩) rfl (fun K hK => ?_)
                have HJ := Lib.hid J
                have HB := Lib.hid hb
                obtain ⟨g47, e47, _⟩ := J.f12 d12
                clear J hb
                have HK := Lib.hid hK
                clear hK
                have G47 := Lib.hid e47
                go_simp
                rw [← G47.out]
                clear e47
                have J := HJ.out
                have hb := HB.out
                refine HK.out _ _ ?_
                exact ⟨b1, b2, b5, b7, updS s 48 (.agg #[.string ⟨#[90]⟩, .bool true, .slice none 0 0, s 47]), rfl, szj_13 J hb d12⟩
              · simp [depsB, Region.binds] at hd
                have d13 : b 13 = true := by simp only [hd]
                clear hd
                refine wpOp_step (o := ⟨some 49, _, _, _, _, _⟩) rfl (fun K hK => ?_)
                have HJ := Lib.hid J
                have HB := Lib.hid hb
                have e48 := J.f13 d13
                obtain ⟨g47, e47, _⟩ := J.f12 (J.c_13_12 d13)
                clear J hb
                have HK := Lib.hid hK
                clear hK
                have G48 := Lib.hid e48
                have G47 := Lib.hid e47
                go_simp
                rw [← G47.out, ← G48.out]
                clear e48 e47
                have J := HJ.out
                have hb := HB.out
                refine HK.out _ _ ?_
                exact ⟨b1, b2, b5, b7, updS s 49 (.slice (some ⟨W.heap.size, 0, none⟩) 1 1), rfl, szj_14 J hb d13⟩
              · simp [depsB, Region.binds] at hd
                have d3 : b 3 = true := by simp only [hd]
                have d14 : b 14 = true := by simp only [hd]
                clear hd
                refine wpOp_step (o := ⟨some 50, _, _, _, _, _⟩) rfl (fun K hK => ?_)
                refine step_append_src cCells 4 cCells_len (by rfl) _ _ 30 (by rfl) w5.heap.size 52 i0 (.agg #[.string ⟨#[]⟩, .bool false, .slice none 0 0, .slice none 0 0]) 72 Tryz.underlying30 hinf hz0 hz1 hz2 (by rfl) (by decide) _ _ rows [zRow e1 (s 47)] (by rfl) (by rfl) (J.f3 d3 hb) (szj_src J d14 hb) (szj_one J (J.c_14_12 d14)) (by rw [HRN.out]; unfold maxLen; simp; omega) (by rw [HRN.out]; simp; omega) (by exact J.below.size) ?_
                intro v W' ho hg
                refine hK _ _ ?_
                try simp only [Act.put, List.setIfInBounds_toArray, List.set_cons_zero, List.set_cons_succ]
                exact ⟨b1, b2, b5, b7, updS s 50 v, rfl, szj_15 J hb d3 d14 ho hg⟩
              · simp [depsB, Region.binds] at hd
                have d15 : b 15 = true := by simp only [hd]
                clear hd
                refine wpOp_step (o := ⟨some 51, _, _, _, _, _⟩) rfl (fun K hK => ?_)
                have HJ := Lib.hid J
                have HB := Lib.hid hb
                obtain ⟨p50, n50, c50, e50⟩ := form3 (own_form (J.f15 d15))
                clear J hb
                have HK := Lib.hid hK
                clear hK
                have G50 := Lib.hid e50
                go_simp
                rw [← G50.out]
                clear e50
                have J := HJ.out
                have hb := HB.out
                refine HK.out _ _ ?_
                exact ⟨b1, b2, b5, b7, updS s 51 (.agg #[s 50]), rfl, szj_16 J hb d15⟩
              · clear hd
                refine wpOp_step (o := ⟨some 7, _, _, _, _, _⟩) rfl (fun K hK => ?_)
                have HJ := Lib.hid J
                have HB := Lib.hid hb
                clear J hb
                have HK := Lib.hid hK
                clear hK
                go_simp
                have J := HJ.out
                have hb := HB.out
                refine HK.out _ _ ?_
                exact ⟨b1, b2, b5, b7, updS s 7 (.pointer (some ⟨W.heap.size, 0, none⟩)), rfl, szj_17 J hb⟩
              · simp [depsB, Region.binds] at hd
                have d0 : b 0 = true := by simp only [hd]
                have d3 : b 3 = true := by simp only [hd]
                have d4 : b 4 = true := by simp only [hd]
                have d6 : b 6 = true := by simp only [hd]
                have d8 : b 8 = true := by simp only [hd]
                have d9 : b 9 = true := by simp only [hd]
                have d10 : b 10 = true := by simp only [hd]
                have d11 : b 11 = true := by simp only [hd]
                have d12 : b 12 = true := by simp only [hd]
                have d13 : b 13 = true := by simp only [hd]
                have d14 : b 14 = true := by simp only [hd]
                have d15 : b 15 = true := by simp only [hd]
                have d16 : b 16 = true := by simp only [hd]
                have d17 : b 17 = true := by simp only [hd]
                clear hd
                refine wpOp_step (o := ⟨none, _, _, _, _, _⟩) rfl (fun K hK => ?_)
                obtain ⟨g, h7, hg7, hgb⟩ := J.f17 d17 hb
                have h51 := J.f16 d16
                obtain ⟨p50, n50, c50, e50⟩ := form3 (own_form (J.f15 d15))
                have hcg := cell_of_blkP hg7 (j := 0) (u := .slice none 0 0) rfl
                have hfz := blk_free hg7 0
                have HJ := Lib.hid (szj_18 J hb d0 d3 d4 d6 d8 d9 d10 d11 d12 d13 d14 d15 d16 d17 h7 hg7 hgb)
                have HK := Lib.hid hK
                clear hK J
                rw [h7, h51]
                have HG7 := Lib.hid h7
                have HG51 := Lib.hid h51
                clear h7 h51 hg7 hgb
                have G50 := Lib.hid e50
                go_simp
                rw [← HG7.out, ← G50.out, ← HG51.out]
                exact HK.out _ _ ⟨b1, b2, b5, b7, s, rfl, HJ.out⟩
            · intro b a W hJ hall
              obtain ⟨_, _, _, _, s, rfl, J⟩ := hJ
              have h15 := J.f15 (hall 15 (by decide))
              have h12 := hall 12 (by decide)
              obtain ⟨PB, e7, hpb, _⟩ := J.f18 (hall 18 (by decide))
              have hbw := below_next hd5.out J.below
              have hz := szj_read J h12 HBD.out (HS1.out.keep hbw)
              have hsl := slC_own h15 (fun x hx => by
                rcases List.mem_append.1 hx with hx | hx
                · exact (HREAD.out x hx).keep hbw
                · obtain rfl := List.mem_singleton.1 hx
                  exact hz)
              rw [List.map_append, HROWS.out] at hsl
              have hsl : SlC W (s 50) (l0 ++ [zClass e1]) := hsl
              obtain ⟨p8, c8, e50⟩ := own_form h15
              have hl8 : (rows ++ [zRow e1 (s 47)]).length = j + 1 := by rw [List.length_append, HRN.out]; rfl
              rw [hl8] at e50
              rw [e50] at hsl hpb
              have HC1 := Lib.hid (cell_of_blkP hpb (j := 0) (u := .slice p8 (j + 1) c8) rfl)
              have HSL := Lib.hid hsl
              have HBW := Lib.hid hbw
              have HE7 := Lib.hid e7
              clear h15 h12 e7 hpb hbw hz hsl e50 hl8 J hall
              go_wp2_with fail
              go_meet
              exact ⟨PB, c8, p8, HE7.out, HC1, HSL, HBW⟩
            · exact ⟨rfl, rfl, rfl, rfl, fun _ => undef, rfl, szj_init _ _ _ _ _ (by intro i hi; simp only [List.mem_cons, List.not_mem_nil, or_false] at hi; rcases hi with rfl | rfl | rfl | rfl | rfl | rfl | rfl | rfl | rfl | rfl | rfl | rfl | rfl | rfl | rfl <;> rfl)⟩
          case rest =>
            obtain ⟨PB, c8, p8, rfl, HC8, HSL, HR⟩ := hcut
            have HMS := HSM.out
            have HZS := HSZ.out
            obtain ⟨X, hX⟩ : ∃ q, Sy.sizeE e1 = q := ⟨_, rfl⟩
            have hx6 : X ≤ 1000 := by rw [← hX]; exact HZS
            have K0 : Hid (∀ W, Below w1.heap.size w1 W → Calls Tryz.prog 24 #[.agg #[.slice p0 j c0]] W fun r w' => r = .returned (.int .i64 (M : Nat)) ∧ Below W.heap.size W w') := fun W hb => by
              have h := KZ.out W hb
              rw [← HMM.out] at h
              exact h
            have K1 : Hid (∀ W, Below wc.heap.size wc W → Calls Tryz.prog 24 #[.agg #[.slice p8 (j + 1) c8]] W fun r w' => r = .returned (.int .i64 ((M : Int) + 6 + X)) ∧ Below W.heap.size W w') := fun W hb => by
              have h := size_any _ (l0 ++ [zClass e1]) W (HSL.out.keep hb) (by rw [sizeP_z, ← HMM.out, hX]; omega)
              rw [sizeP_z, ← HMM.out, hX] at h
              have e : (((M + 6 + X : Nat)) : Int) = (M : Int) + 6 + X := by omega
              rw [e] at h
              exact h
            have K2 : Hid (∀ W, Below w1.heap.size w1 W → Calls Tryz.prog 32 #[.agg #[.int .i64 e1.kind, .int .i64 e1.op, .int .i64 e1.int, .string e1.name, .bool e1.at_, .slice p1 N1 c1]] W fun r w' => r = .returned (.int .i64 (X : Nat)) ∧ Below W.heap.size W w') := fun W hb => by
              have h := KR.out W hb
              rw [hX] at h
              exact h
            have HXW : Hid (Below w1.heap.size w1 wc) := HR
            clear hX HMS HZS
            have d0_0 := ((HC.out _ HR.out).1 0 _ rfl)
            have d1_0 := ((HC.out _ HR.out).2 0 _ rfl)
            have d1_1 := ((HC.out _ HR.out).2 1 _ rfl)
            have d1_2 := ((HC.out _ HR.out).2 2 _ rfl)
            have d1_3 := ((HC.out _ HR.out).2 3 _ rfl)
            have d1_4 := ((HC.out _ HR.out).2 4 _ rfl)
            have d1_5 := ((HC.out _ HR.out).2 5 _ rfl)
            have d2_0 := HC8.out
            go_upto_region 11 with fail
            obtain ⟨w8, hw8⟩ : ∃ q, q = wc := ⟨_, rfl⟩
            rw [← hw8] at HR HC8 HSL K1 HXW d2_0 d0_0 d1_0 d1_1 d1_2 d1_3 d1_4 d1_5 ⊢
            clear hw8
            refine wp_region_held_drew (S := fun W => W.cell? ⟨w.heap.size, 0, none⟩ = some (.slice p0 j c0) ∧ W.cell? ⟨w.heap.size + 1, 0, none⟩ = some (.int .i64 e1.kind) ∧ W.cell? ⟨w.heap.size + 1, 1, none⟩ = some (.int .i64 e1.op) ∧ W.cell? ⟨w.heap.size + 1, 2, none⟩ = some (.int .i64 e1.int) ∧ W.cell? ⟨w.heap.size + 1, 3, none⟩ = some (.string e1.name) ∧ W.cell? ⟨w.heap.size + 1, 4, none⟩ = some (.bool e1.at_) ∧ W.cell? ⟨w.heap.size + 1, 5, none⟩ = some (.slice p1 N1 c1) ∧ W.cell? ⟨PB, 0, none⟩ = some (.slice p8 (j + 1) c8) ∧ Hid (Below w8.heap.size w8 W)) (by kernel_rfl) ?_ (fun hHeld => ?_)
            · exact ⟨d0_0, d1_0, d1_1, d1_2, d1_3, d1_4, d1_5, d2_0, Lib.hid (Below.refl w8.heap.size w8).drew⟩
            clear d0_0 d1_0 d1_1 d1_2 d1_3 d1_4 d1_5 d2_0
            refine wpAnyH_take (i := 0) (oi := ⟨some 52, _, _, _, _, _⟩) (v := ?_) rfl (by kernel_rfl) (by kernel_rfl) (by kernel_rfl) (fun _ _ _ h => h) (Or.inl ⟨by rfl, ?_⟩) (by assumption) ?_
            rotate_left
            · (intro w hSw; (try dsimp only at hSw); go_simp; (try with_reducible rfl))
            try simp only [Act.put, List.setIfInBounds_toArray, List.set_cons_zero, List.set_cons_succ]
            refine wpAnyH_take (i := 2) (oi := ⟨some 54, _, _, _, _, _⟩) (v := ?_) rfl (by kernel_rfl) (by kernel_rfl) (by kernel_rfl) (fun _ _ _ h => h) (Or.inl ⟨by rfl, ?_⟩) (by assumption) ?_
            rotate_left
            · (intro w hSw; (try dsimp only at hSw); go_simp; (try with_reducible rfl))
            try simp only [Act.put, List.setIfInBounds_toArray, List.set_cons_zero, List.set_cons_succ]
            refine wpAnyH_ready (rs := [1]) (by kernel_rfl) (by simp) ?_
            refine AllReadyH.cons (o := ⟨some 53, _, _, _, _, _⟩) rfl (fun K hK => ?_) AllReadyH.nil
            go_simp
            with_reducible refine (K0.out _ (below_next HXW.out hHeld.2.2.2.2.2.2.2.2.out)).mono ?_
            rintro e w' ⟨rfl, hb⟩
            go_wp2_with fail
            refine hK.out _ _ ?_ (fun hHeld => ?_)
            · exact ⟨cell_keep' hb hHeld.1, cell_keep' hb hHeld.2.1, cell_keep' hb hHeld.2.2.1, cell_keep' hb hHeld.2.2.2.1, cell_keep' hb hHeld.2.2.2.2.1, cell_keep' hb hHeld.2.2.2.2.2.1, cell_keep' hb hHeld.2.2.2.2.2.2.1, cell_keep' hb hHeld.2.2.2.2.2.2.2.1, Lib.hid (below_next hHeld.2.2.2.2.2.2.2.2.out hb)⟩
            clear hK K
            try simp only [Act.put, List.setIfInBounds_toArray, List.set_cons_zero, List.set_cons_succ]
            clear hb
            refine wpAnyH_take (i := 3) (oi := ⟨some 55, _, _, _, _, _⟩) (v := ?_) rfl (by kernel_rfl) (by kernel_rfl) (by kernel_rfl) (fun _ _ _ h => h) (Or.inl ⟨by rfl, ?_⟩) (by assumption) ?_
            rotate_left
            · (intro w hSw; (try dsimp only at hSw); go_simp; (try with_reducible rfl))
            try simp only [Act.put, List.setIfInBounds_toArray, List.set_cons_zero, List.set_cons_succ]
            refine wpAnyH_take (i := 4) (oi := ⟨some 56, _, _, _, _, _⟩) (v := ?_) rfl (by kernel_rfl) (by kernel_rfl) (by kernel_rfl) (fun _ _ _ h => h) (Or.inl ⟨by rfl, ?_⟩) (by assumption) ?_
            rotate_left
            · (intro w hSw; (try dsimp only at hSw); go_simp; (try with_reducible rfl))
            try simp only [Act.put, List.setIfInBounds_toArray, List.set_cons_zero, List.set_cons_succ]
            refine wpAnyH_take (i := 5) (oi := ⟨some 57, _, _, _, _, _⟩) (v := ?_) rfl (by kernel_rfl) (by kernel_rfl) (by kernel_rfl) (fun _ _ _ h => h) (Or.inl ⟨by rfl, ?_⟩) (by assumption) ?_
            rotate_left
            · (intro w hSw; (try dsimp only at hSw); go_simp; (try with_reducible rfl))
            try simp only [Act.put, List.setIfInBounds_toArray, List.set_cons_zero, List.set_cons_succ]
            refine wpAnyH_take (i := 7) (oi := ⟨some 59, _, _, _, _, _⟩) (v := ?_) rfl (by kernel_rfl) (by kernel_rfl) (by kernel_rfl) (fun _ _ _ h => h) (Or.inl ⟨by rfl, ?_⟩) (by assumption) ?_
            rotate_left
            · (intro w hSw; (try dsimp only at hSw); go_simp; (try with_reducible rfl))
            try simp only [Act.put, List.setIfInBounds_toArray, List.set_cons_zero, List.set_cons_succ]
            refine wpAnyH_take (i := 8) (oi := ⟨some 60, _, _, _, _, _⟩) (v := ?_) rfl (by kernel_rfl) (by kernel_rfl) (by kernel_rfl) (fun _ _ _ h => h) (Or.inl ⟨by rfl, ?_⟩) (by assumption) ?_
            rotate_left
            · (intro w hSw; (try dsimp only at hSw); go_simp; (try with_reducible rfl))
            try simp only [Act.put, List.setIfInBounds_toArray, List.set_cons_zero, List.set_cons_succ]
            refine wpAnyH_take (i := 9) (oi := ⟨some 61, _, _, _, _, _⟩) (v := ?_) rfl (by kernel_rfl) (by kernel_rfl) (by kernel_rfl) (fun _ _ _ h => h) (Or.inl ⟨by rfl, ?_⟩) (by assumption) ?_
            rotate_left
            · (intro w hSw; (try dsimp only at hSw); go_simp; (try with_reducible rfl))
            try simp only [Act.put, List.setIfInBounds_toArray, List.set_cons_zero, List.set_cons_succ]
            refine wpAnyH_ready (rs := [6]) (by kernel_rfl) (by simp) ?_
            refine AllReadyH.cons (o := ⟨some 58, _, _, _, _, _⟩) rfl (fun K hK => ?_) AllReadyH.nil
            go_simp
            with_reducible refine (K1.out _ hHeld.2.2.2.2.2.2.2.2.out).mono ?_
            rintro e w' ⟨rfl, hb⟩
            go_wp2_with fail
            refine hK.out _ _ ?_ (fun hHeld => ?_)
            · exact ⟨cell_keep' hb hHeld.1, cell_keep' hb hHeld.2.1, cell_keep' hb hHeld.2.2.1, cell_keep' hb hHeld.2.2.2.1, cell_keep' hb hHeld.2.2.2.2.1, cell_keep' hb hHeld.2.2.2.2.2.1, cell_keep' hb hHeld.2.2.2.2.2.2.1, cell_keep' hb hHeld.2.2.2.2.2.2.2.1, Lib.hid (below_next hHeld.2.2.2.2.2.2.2.2.out hb)⟩
            clear hK K
            try simp only [Act.put, List.setIfInBounds_toArray, List.set_cons_zero, List.set_cons_succ]
            clear hb
            refine wpAnyH_ready (rs := [10]) (by kernel_rfl) (by simp) ?_
            refine AllReadyH.cons (o := ⟨some 62, _, _, _, _, _⟩) rfl (fun K hK => ?_) AllReadyH.nil
            go_simp
            with_reducible refine (K2.out _ (below_next HXW.out hHeld.2.2.2.2.2.2.2.2.out)).mono ?_
            rintro e w' ⟨rfl, hb⟩
            go_wp2_with fail
            refine hK.out _ _ ?_ (fun hHeld => ?_)
            · exact ⟨cell_keep' hb hHeld.1, cell_keep' hb hHeld.2.1, cell_keep' hb hHeld.2.2.1, cell_keep' hb hHeld.2.2.2.1, cell_keep' hb hHeld.2.2.2.2.1, cell_keep' hb hHeld.2.2.2.2.2.1, cell_keep' hb hHeld.2.2.2.2.2.2.1, cell_keep' hb hHeld.2.2.2.2.2.2.2.1, Lib.hid (below_next hHeld.2.2.2.2.2.2.2.2.out hb)⟩
            clear hK K
            try simp only [Act.put, List.setIfInBounds_toArray, List.set_cons_zero, List.set_cons_succ]
            clear hb
            refine wpAnyH_take (i := 11) (oi := ⟨some 63, _, _, _, _, _⟩) (v := ?_) rfl (by kernel_rfl) (by kernel_rfl) (by kernel_rfl) (fun _ _ _ h => h) (Or.inl ⟨by rfl, ?_⟩) (by assumption) ?_
            rotate_left
            · (intro w hSw; (try dsimp only at hSw); go_simp; (try with_reducible rfl))
            try simp only [Act.put, List.setIfInBounds_toArray, List.set_cons_zero, List.set_cons_succ]
            refine wpAnyH_take (i := 12) (oi := ⟨some 64, _, _, _, _, _⟩) (v := ?_) rfl (by kernel_rfl) (by kernel_rfl) (by kernel_rfl) (fun _ _ _ h => h) (Or.inl ⟨by rfl, ?_⟩) (by assumption) ?_
            rotate_left
            · (intro w hSw; (try dsimp only at hSw); go_simp; (try with_reducible rfl))
            try simp only [Act.put, List.setIfInBounds_toArray, List.set_cons_zero, List.set_cons_succ]
            refine wpAnyH_take (i := 13) (oi := ⟨some 65, _, _, _, _, _⟩) (v := ?_) rfl (by kernel_rfl) (by kernel_rfl) (by kernel_rfl) (fun _ _ _ h => h) (Or.inl ⟨by rfl, ?_⟩) (by assumption) ?_
            rotate_left
            · (intro w hSw; (try dsimp only at hSw); go_simp; (try with_reducible rfl))
            try simp only [Act.put, List.setIfInBounds_toArray, List.set_cons_zero, List.set_cons_succ]
            refine wpAnyH_take (i := 14) (oi := ⟨some 4, _, _, _, _, _⟩) (v := ?_) rfl (by kernel_rfl) (by kernel_rfl) (by kernel_rfl) (fun _ _ _ h => h) (Or.inl ⟨by rfl, ?_⟩) (by assumption) ?_
            rotate_left
            · (intro w hSw; (try dsimp only at hSw); go_simp; (try with_reducible rfl))
            try simp only [Act.put, List.setIfInBounds_toArray, List.set_cons_zero, List.set_cons_succ]
            refine wpAnyH_done (by kernel_rfl) ?_ _
            have HZ := Lib.hid hHeld.2.2.2.2.2.2.2.2.out
            clear hHeld
            go_wp2_with fail
            go_ret
            refine ⟨?_, below_next HB1.out (below_next HXW.out HZ.out)⟩
            show Ending.returned (.bool ((M : Int) + 6 + X == IntKind.i64.wrap (IntKind.i64.wrap ((M : Int) + 6) + X))) = _
            rw [IntWalk.i64_in ((M : Int) + 6) (by omega), IntWalk.i64_in ((M : Int) + 6 + X) (by omega), beq_self_eq_true]
end Go.Proofs.YtlgfickhkejdjaaGreatDoor
