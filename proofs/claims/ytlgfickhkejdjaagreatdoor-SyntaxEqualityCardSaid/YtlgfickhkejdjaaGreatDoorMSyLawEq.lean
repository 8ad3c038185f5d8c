/-
  SyntaxEquality, walked: Equal is the reference's, it is reflexive and symmetric.
-/
import Derived.Test.YtlgfickhkejdjaaGreatDoorMSyLawBase
import Derived.Test.YtlgfickhkejdjaaGreatDoorMSyReqP
namespace Go.Proofs.YtlgfickhkejdjaaGreatDoor
open Go.RowKit Go.Maps

theorem sameCs_refl (l : List Tr.C) : Sy.sameCs l l = true := (Sy.sameCs_iff _ _).2 rfl
theorem sameCs_symm (a b : List Tr.C) : Sy.sameCs b a = Sy.sameCs a b := by
  rw [Bool.eq_iff_iff, Sy.sameCs_iff, Sy.sameCs_iff]
  exact ⟨Eq.symm, Eq.symm⟩

set_option maxRecDepth 100000 in
set_option maxHeartbeats 20000000 in
theorem law_equality (v0 : Value) (l0 : List Tr.C) (v1 : Value) (l1 : List Tr.C) (w : World) (hE : SyEnv w) (h0 : SlC w v0 l0) (h1 : SlC w v1 l1) :
    Calls Tryz.prog 5 #[.agg #[v0], .agg #[v1]] w fun r w' => r = .returned (.bool true) ∧ Below w.heap.size w w' := by
  have hi0 := h0.i64
  obtain ⟨p0, c0, rfl⟩ := h0.form
  obtain ⟨N0, hN0⟩ : ∃ q, l0.length = q := ⟨_, rfl⟩
  rw [hN0] at h0 ⊢
  have hi1 := h1.i64
  obtain ⟨p1, c1, rfl⟩ := h1.form
  obtain ⟨N1, hN1⟩ : ∃ q, l1.length = q := ⟨_, rfl⟩
  rw [hN1] at h1 ⊢
  have hbc := box2_of w #[.slice p0 N0 c0] #[.slice p1 N1 c1] 32 32
  obtain ⟨w1, hw1⟩ : ∃ q, q = (w.alloc (.cells #[.slice p0 N0 c0] 32)).alloc (.cells #[.slice p1 N1 c1] 32) := ⟨_, rfl⟩
  rw [← hw1] at hbc
  obtain ⟨hb1, hc1⟩ := hbc
  have HW1 := Lib.hid hw1
  have HB1 := Lib.hid hb1
  have HC := Lib.hid hc1
  have hez := hE.keep hb1
  have hs0 := h0.keep hb1
  have hs1 := h1.keep hb1
  have KA : Hid (∀ W, Below w1.heap.size w1 W → Calls Tryz.prog 11 #[] W fun r w' => r = .returned (.bool true) ∧ Below W.heap.size W w') := fun W hb => awake38_any W (hez.keep hb)
  have KF0 : Hid (∀ W, Below w1.heap.size w1 W → Calls Tryz.prog 19 #[.agg #[.slice p0 N0 c0], .int .i64 120] W fun r w' => r = .returned (.bool (Tr.fewP l0 120)) ∧ Below W.heap.size W w') := fun W hb => few_any _ l0 120 W (hs0.keep hb) (by decide) (by decide)
  have KF1 : Hid (∀ W, Below w1.heap.size w1 W → Calls Tryz.prog 19 #[.agg #[.slice p1 N1 c1], .int .i64 120] W fun r w' => r = .returned (.bool (Tr.fewP l1 120)) ∧ Below W.heap.size W w') := fun W hb => few_any _ l1 120 W (hs1.keep hb) (by decide) (by decide)
  have hsym := sameCs_symm l0 l1
  obtain ⟨Q, hQ⟩ : ∃ q, Sy.sameCs l0 l1 = q := ⟨_, rfl⟩
  rw [hQ] at hsym
  have K1 : Hid (∀ W, Below w1.heap.size w1 W → Calls Tryz.prog 26 #[.agg #[.slice p0 N0 c0], .agg #[.slice p1 N1 c1]] W fun r w' => r = .returned (.bool Q) ∧ Below W.heap.size W w') := fun W hb => by have h := equal_any l0 l1 _ _ W (hs0.keep hb) (hs1.keep hb); rw [hQ] at h; exact h
  have K2 : Hid (∀ W, Below w1.heap.size w1 W → Calls Tryz.prog 27 #[.agg #[.slice p0 N0 c0], .agg #[.slice p1 N1 c1]] W fun r w' => r = .returned (.bool Q) ∧ Below W.heap.size W w') := fun W hb => by have h := refSame_any l0 l1 _ _ W (hs0.keep hb) (hs1.keep hb); rw [hQ] at h; exact h
  have K3 : Hid (∀ W, Below w1.heap.size w1 W → Calls Tryz.prog 26 #[.agg #[.slice p1 N1 c1], .agg #[.slice p0 N0 c0]] W fun r w' => r = .returned (.bool Q) ∧ Below W.heap.size W w') := fun W hb => by have h := equal_any l1 l0 _ _ W (hs1.keep hb) (hs0.keep hb); rw [hsym] at h; exact h
  have K4 : Hid (∀ W, Below w1.heap.size w1 W → Calls Tryz.prog 26 #[.agg #[.slice p0 N0 c0], .agg #[.slice p0 N0 c0]] W fun r w' => r = .returned (.bool true) ∧ Below W.heap.size W w') := fun W hb => by have h := equal_any l0 l0 _ _ W (hs0.keep hb) (hs0.keep hb); rw [sameCs_refl] at h; exact h
  have K5 : Hid (∀ W, Below w1.heap.size w1 W → Calls Tryz.prog 26 #[.agg #[.slice p1 N1 c1], .agg #[.slice p1 N1 c1]] W fun r w' => r = .returned (.bool true) ∧ Below W.heap.size W w') := fun W hb => by have h := equal_any l1 l1 _ _ W (hs1.keep hb) (hs1.keep hb); rw [sameCs_refl] at h; exact h
  clear hE h0 h1 hN0 hN1 hw1 hb1 hc1 hez hs0 hs1 hi0 hi1 hQ hsym
  cases hq0 : Tr.fewP l0 120
  · rw [hq0] at KF0
    clear hq0
    go_enter Tryz.func5, Tryz.ntmps5
    go_upto_region 1 with fail
    rw [← HW1.out]
    have HR := Lib.hid (Below.refl w1.heap.size w1)
    go_wp2_with fail
    refine (KA.out _ HR.out).mono ?_
    rintro r wy ⟨rfl, hby⟩
    have HR := Lib.hid (below_next HR.out hby)
    clear hby
    have d0_0 := ((HC.out _ HR.out).1 0 _ rfl)
    go_wp2_with fail
    refine (KF0.out _ HR.out).mono ?_
    rintro r wy ⟨rfl, hby⟩
    have HR := Lib.hid (below_next HR.out hby)
    clear hby d0_0
    go_wp2_with fail
    go_ret
    exact ⟨rfl, below_next HB1.out HR.out⟩
  · rw [hq0] at KF0
    clear hq0
    cases hq1 : Tr.fewP l1 120
    · rw [hq1] at KF1
      clear hq1
      go_enter Tryz.func5, Tryz.ntmps5
      go_upto_region 1 with fail
      rw [← HW1.out]
      have HR := Lib.hid (Below.refl w1.heap.size w1)
      go_wp2_with fail
      refine (KA.out _ HR.out).mono ?_
      rintro r wy ⟨rfl, hby⟩
      have HR := Lib.hid (below_next HR.out hby)
      clear hby
      have d0_0 := ((HC.out _ HR.out).1 0 _ rfl)
      go_wp2_with fail
      refine (KF0.out _ HR.out).mono ?_
      rintro r wy ⟨rfl, hby⟩
      have HR := Lib.hid (below_next HR.out hby)
      clear hby d0_0
      have d1_0 := ((HC.out _ HR.out).2 0 _ rfl)
      go_wp2_with fail
      refine (KF1.out _ HR.out).mono ?_
      rintro r wy ⟨rfl, hby⟩
      have HR := Lib.hid (below_next HR.out hby)
      clear hby d1_0
      go_wp2_with fail
      go_ret
      exact ⟨rfl, below_next HB1.out HR.out⟩
    · rw [hq1] at KF1
      clear hq1
      go_enter Tryz.func5, Tryz.ntmps5
      go_upto_region 1 with fail
      rw [← HW1.out]
      have HR := Lib.hid (Below.refl w1.heap.size w1)
      go_wp2_with fail
      refine (KA.out _ HR.out).mono ?_
      rintro r wy ⟨rfl, hby⟩
      have HR := Lib.hid (below_next HR.out hby)
      clear hby
      have d0_0 := ((HC.out _ HR.out).1 0 _ rfl)
      go_wp2_with fail
      refine (KF0.out _ HR.out).mono ?_
      rintro r wy ⟨rfl, hby⟩
      have HR := Lib.hid (below_next HR.out hby)
      clear hby d0_0
      have d1_0 := ((HC.out _ HR.out).2 0 _ rfl)
      go_wp2_with fail
      refine (KF1.out _ HR.out).mono ?_
      rintro r wy ⟨rfl, hby⟩
      have HR := Lib.hid (below_next HR.out hby)
      clear hby d1_0
      have d0_0 := ((HC.out _ HR.out).1 0 _ rfl)
      have d1_0 := ((HC.out _ HR.out).2 0 _ rfl)
      go_upto_region 5 with fail
      refine wp_region_held_drew (S := fun W => W.cell? ⟨w.heap.size, 0, none⟩ = some (.slice p0 N0 c0) ∧ W.cell? ⟨w.heap.size + 1, 0, none⟩ = some (.slice p1 N1 c1) ∧ Hid (Below w1.heap.size w1 W)) (by kernel_rfl) ?_ (fun hHeld => ?_)
      · exact ⟨d0_0, d1_0, Lib.hid (HR.out).drew⟩
      clear d0_0 d1_0
      refine wpAnyH_take (i := 0) (oi := ⟨some 15, _, _, _, _, _⟩) (v := ?_) rfl (by kernel_rfl) (by kernel_rfl) (by kernel_rfl) (fun _ _ _ h => h) (Or.inl ⟨by rfl, ?_⟩) (by assumption) ?_
      rotate_left
      · (intro w hSw; (try dsimp only at hSw); go_simp; (try with_reducible rfl))
      try simp only [Act.put, List.setIfInBounds_toArray, List.set_cons_zero, List.set_cons_succ]
      refine wpAnyH_take (i := 1) (oi := ⟨some 16, _, _, _, _, _⟩) (v := ?_) rfl (by kernel_rfl) (by kernel_rfl) (by kernel_rfl) (fun _ _ _ h => h) (Or.inl ⟨by rfl, ?_⟩) (by assumption) ?_
      rotate_left
      · (intro w hSw; (try dsimp only at hSw); go_simp; (try with_reducible rfl))
      try simp only [Act.put, List.setIfInBounds_toArray, List.set_cons_zero, List.set_cons_succ]
      refine wpAnyH_take (i := 3) (oi := ⟨some 18, _, _, _, _, _⟩) (v := ?_) rfl (by kernel_rfl) (by kernel_rfl) (by kernel_rfl) (fun _ _ _ h => h) (Or.inl ⟨by rfl, ?_⟩) (by assumption) ?_
      rotate_left
      · (intro w hSw; (try dsimp only at hSw); go_simp; (try with_reducible rfl))
      try simp only [Act.put, List.setIfInBounds_toArray, List.set_cons_zero, List.set_cons_succ]
      refine wpAnyH_take (i := 4) (oi := ⟨some 19, _, _, _, _, _⟩) (v := ?_) rfl (by kernel_rfl) (by kernel_rfl) (by kernel_rfl) (fun _ _ _ h => h) (Or.inl ⟨by rfl, ?_⟩) (by assumption) ?_
      rotate_left
      · (intro w hSw; (try dsimp only at hSw); go_simp; (try with_reducible rfl))
      try simp only [Act.put, List.setIfInBounds_toArray, List.set_cons_zero, List.set_cons_succ]
      refine wpAnyH_ready (rs := [2]) (by kernel_rfl) (by simp) ?_
      refine AllReadyH.cons (o := ⟨some 17, _, _, _, _, _⟩) rfl (fun K hK => ?_) AllReadyH.nil
      go_simp
      with_reducible refine (K1.out _ hHeld.2.2.out).mono ?_
      rintro e w' ⟨rfl, hb⟩
      go_wp2_with fail
      refine hK.out _ _ ?_ (fun hHeld => ?_)
      · exact ⟨cell_keep' hb hHeld.1, cell_keep' hb hHeld.2.1, Lib.hid (below_next hHeld.2.2.out hb)⟩
      clear hK K
      try simp only [Act.put, List.setIfInBounds_toArray, List.set_cons_zero, List.set_cons_succ]
      clear hb
      refine wpAnyH_ready (rs := [5]) (by kernel_rfl) (by simp) ?_
      refine AllReadyH.cons (o := ⟨some 20, _, _, _, _, _⟩) rfl (fun K hK => ?_) AllReadyH.nil
      go_simp
      with_reducible refine (K2.out _ hHeld.2.2.out).mono ?_
      rintro e w' ⟨rfl, hb⟩
      go_wp2_with fail
      refine hK.out _ _ ?_ (fun hHeld => ?_)
      · exact ⟨cell_keep' hb hHeld.1, cell_keep' hb hHeld.2.1, Lib.hid (below_next hHeld.2.2.out hb)⟩
      clear hK K
      try simp only [Act.put, List.setIfInBounds_toArray, List.set_cons_zero, List.set_cons_succ]
      clear hb
      refine wpAnyH_take (i := 6) (oi := ⟨some 21, _, _, _, _, _⟩) (v := ?_) rfl (by kernel_rfl) (by kernel_rfl) (by kernel_rfl) (fun _ _ _ h => h) (Or.inl ⟨by rfl, ?_⟩) (by assumption) ?_
      rotate_left
      · (intro w hSw; (try dsimp only at hSw); go_simp; (try with_reducible rfl))
      try simp only [Act.put, List.setIfInBounds_toArray, List.set_cons_zero, List.set_cons_succ]
      refine wpAnyH_take (i := 7) (oi := ⟨some 22, _, _, _, _, _⟩) (v := ?_) rfl (by kernel_rfl) (by kernel_rfl) (by kernel_rfl) (fun _ _ _ h => h) (Or.inl ⟨by rfl, ?_⟩) (by assumption) ?_
      rotate_left
      · (intro w hSw; (try dsimp only at hSw); go_simp; (try with_reducible rfl))
      try simp only [Act.put, List.setIfInBounds_toArray, List.set_cons_zero, List.set_cons_succ]
      refine wpAnyH_take (i := 8) (oi := ⟨some 23, _, _, _, _, _⟩) (v := ?_) rfl (by kernel_rfl) (by kernel_rfl) (by kernel_rfl) (fun _ _ _ h => h) (Or.inl ⟨by rfl, ?_⟩) (by assumption) ?_
      rotate_left
      · (intro w hSw; (try dsimp only at hSw); go_simp; (try with_reducible rfl))
      try simp only [Act.put, List.setIfInBounds_toArray, List.set_cons_zero, List.set_cons_succ]
      refine wpAnyH_take (i := 9) (oi := ⟨some 24, _, _, _, _, _⟩) (v := ?_) rfl (by kernel_rfl) (by kernel_rfl) (by kernel_rfl) (fun _ _ _ h => h) (Or.inl ⟨by rfl, ?_⟩) (by assumption) ?_
      rotate_left
      · (intro w hSw; (try dsimp only at hSw); go_simp; (try with_reducible rfl))
      try simp only [Act.put, List.setIfInBounds_toArray, List.set_cons_zero, List.set_cons_succ]
      refine wpAnyH_take (i := 11) (oi := ⟨some 26, _, _, _, _, _⟩) (v := ?_) rfl (by kernel_rfl) (by kernel_rfl) (by kernel_rfl) (fun _ _ _ h => h) (Or.inl ⟨by rfl, ?_⟩) (by assumption) ?_
      rotate_left
      · (intro w hSw; (try dsimp only at hSw); go_simp; (try with_reducible rfl))
      try simp only [Act.put, List.setIfInBounds_toArray, List.set_cons_zero, List.set_cons_succ]
      refine wpAnyH_take (i := 12) (oi := ⟨some 27, _, _, _, _, _⟩) (v := ?_) rfl (by kernel_rfl) (by kernel_rfl) (by kernel_rfl) (fun _ _ _ h => h) (Or.inl ⟨by rfl, ?_⟩) (by assumption) ?_
      rotate_left
      · (intro w hSw; (try dsimp only at hSw); go_simp; (try with_reducible rfl))
      try simp only [Act.put, List.setIfInBounds_toArray, List.set_cons_zero, List.set_cons_succ]
      refine wpAnyH_ready (rs := [10]) (by kernel_rfl) (by simp) ?_
      refine AllReadyH.cons (o := ⟨some 25, _, _, _, _, _⟩) rfl (fun K hK => ?_) AllReadyH.nil
      go_simp
      with_reducible refine (K3.out _ hHeld.2.2.out).mono ?_
      rintro e w' ⟨rfl, hb⟩
      go_wp2_with fail
      refine hK.out _ _ ?_ (fun hHeld => ?_)
      · exact ⟨cell_keep' hb hHeld.1, cell_keep' hb hHeld.2.1, Lib.hid (below_next hHeld.2.2.out hb)⟩
      clear hK K
      try simp only [Act.put, List.setIfInBounds_toArray, List.set_cons_zero, List.set_cons_succ]
      clear hb
      refine wpAnyH_ready (rs := [13]) (by kernel_rfl) (by simp) ?_
      refine AllReadyH.cons (o := ⟨some 28, _, _, _, _, _⟩) rfl (fun K hK => ?_) AllReadyH.nil
      go_simp
      with_reducible refine (K1.out _ hHeld.2.2.out).mono ?_
      rintro e w' ⟨rfl, hb⟩
      go_wp2_with fail
      refine hK.out _ _ ?_ (fun hHeld => ?_)
      · exact ⟨cell_keep' hb hHeld.1, cell_keep' hb hHeld.2.1, Lib.hid (below_next hHeld.2.2.out hb)⟩
      clear hK K
      try simp only [Act.put, List.setIfInBounds_toArray, List.set_cons_zero, List.set_cons_succ]
      clear hb
      refine wpAnyH_take (i := 14) (oi := ⟨some 29, _, _, _, _, _⟩) (v := ?_) rfl (by kernel_rfl) (by kernel_rfl) (by kernel_rfl) (fun _ _ _ h => h) (Or.inl ⟨by rfl, ?_⟩) (by assumption) ?_
      rotate_left
      · (intro w hSw; (try dsimp only at hSw); go_simp; (try with_reducible rfl))
      try simp only [Act.put, List.setIfInBounds_toArray, List.set_cons_zero, List.set_cons_succ]
      refine wpAnyH_take (i := 15) (oi := ⟨some 30, _, _, _, _, _⟩) (v := ?_) rfl (by kernel_rfl) (by kernel_rfl) (by kernel_rfl) (fun _ _ _ h => h) (Or.inl ⟨by rfl, ?_⟩) (by assumption) ?_
      rotate_left
      · (intro w hSw; (try dsimp only at hSw); go_simp; (try with_reducible rfl))
      try simp only [Act.put, List.setIfInBounds_toArray, List.set_cons_zero, List.set_cons_succ]
      refine wpAnyH_take (i := 16) (oi := ⟨some 31, _, _, _, _, _⟩) (v := ?_) rfl (by kernel_rfl) (by kernel_rfl) (by kernel_rfl) (fun _ _ _ h => h) (Or.inl ⟨by rfl, ?_⟩) (by assumption) ?_
      rotate_left
      · (intro w hSw; (try dsimp only at hSw); go_simp; (try with_reducible rfl))
      try simp only [Act.put, List.setIfInBounds_toArray, List.set_cons_zero, List.set_cons_succ]
      refine wpAnyH_take (i := 17) (oi := ⟨some 32, _, _, _, _, _⟩) (v := ?_) rfl (by kernel_rfl) (by kernel_rfl) (by kernel_rfl) (fun _ _ _ h => h) (Or.inl ⟨by rfl, ?_⟩) (by assumption) ?_
      rotate_left
      · (intro w hSw; (try dsimp only at hSw); go_simp; (try with_reducible rfl))
      try simp only [Act.put, List.setIfInBounds_toArray, List.set_cons_zero, List.set_cons_succ]
      refine wpAnyH_take (i := 18) (oi := ⟨some 33, _, _, _, _, _⟩) (v := ?_) rfl (by kernel_rfl) (by kernel_rfl) (by kernel_rfl) (fun _ _ _ h => h) (Or.inl ⟨by rfl, ?_⟩) (by assumption) ?_
      rotate_left
      · (intro w hSw; (try dsimp only at hSw); go_simp; (try with_reducible rfl))
      try simp only [Act.put, List.setIfInBounds_toArray, List.set_cons_zero, List.set_cons_succ]
      refine wpAnyH_ready (rs := [19]) (by kernel_rfl) (by simp) ?_
      refine AllReadyH.cons (o := ⟨some 34, _, _, _, _, _⟩) rfl (fun K hK => ?_) AllReadyH.nil
      go_simp
      with_reducible refine (K4.out _ hHeld.2.2.out).mono ?_
      rintro e w' ⟨rfl, hb⟩
      go_wp2_with fail
      refine hK.out _ _ ?_ (fun hHeld => ?_)
      · exact ⟨cell_keep' hb hHeld.1, cell_keep' hb hHeld.2.1, Lib.hid (below_next hHeld.2.2.out hb)⟩
      clear hK K
      try simp only [Act.put, List.setIfInBounds_toArray, List.set_cons_zero, List.set_cons_succ]
      clear hb
      refine wpAnyH_take (i := 20) (oi := ⟨some 35, _, _, _, _, _⟩) (v := ?_) rfl (by kernel_rfl) (by kernel_rfl) (by kernel_rfl) (fun _ _ _ h => h) (Or.inl ⟨by rfl, ?_⟩) (by assumption) ?_
      rotate_left
      · (intro w hSw; (try dsimp only at hSw); go_simp; (try with_reducible rfl))
      try simp only [Act.put, List.setIfInBounds_toArray, List.set_cons_zero, List.set_cons_succ]
      refine wpAnyH_take (i := 21) (oi := ⟨some 36, _, _, _, _, _⟩) (v := ?_) rfl (by kernel_rfl) (by kernel_rfl) (by kernel_rfl) (fun _ _ _ h => h) (Or.inl ⟨by rfl, ?_⟩) (by assumption) ?_
      rotate_left
      · (intro w hSw; (try dsimp only at hSw); go_simp; (try with_reducible rfl))
      try simp only [Act.put, List.setIfInBounds_toArray, List.set_cons_zero, List.set_cons_succ]
      refine wpAnyH_take (i := 22) (oi := ⟨some 37, _, _, _, _, _⟩) (v := ?_) rfl (by kernel_rfl) (by kernel_rfl) (by kernel_rfl) (fun _ _ _ h => h) (Or.inl ⟨by rfl, ?_⟩) (by assumption) ?_
      rotate_left
      · (intro w hSw; (try dsimp only at hSw); go_simp; (try with_reducible rfl))
      try simp only [Act.put, List.setIfInBounds_toArray, List.set_cons_zero, List.set_cons_succ]
      refine wpAnyH_take (i := 23) (oi := ⟨some 38, _, _, _, _, _⟩) (v := ?_) rfl (by kernel_rfl) (by kernel_rfl) (by kernel_rfl) (fun _ _ _ h => h) (Or.inl ⟨by rfl, ?_⟩) (by assumption) ?_
      rotate_left
      · (intro w hSw; (try dsimp only at hSw); go_simp; (try with_reducible rfl))
      try simp only [Act.put, List.setIfInBounds_toArray, List.set_cons_zero, List.set_cons_succ]
      refine wpAnyH_ready (rs := [24]) (by kernel_rfl) (by simp) ?_
      refine AllReadyH.cons (o := ⟨some 39, _, _, _, _, _⟩) rfl (fun K hK => ?_) AllReadyH.nil
      go_simp
      with_reducible refine (K5.out _ hHeld.2.2.out).mono ?_
      rintro e w' ⟨rfl, hb⟩
      go_wp2_with fail
      refine hK.out _ _ ?_ (fun hHeld => ?_)
      · exact ⟨cell_keep' hb hHeld.1, cell_keep' hb hHeld.2.1, Lib.hid (below_next hHeld.2.2.out hb)⟩
      clear hK K
      try simp only [Act.put, List.setIfInBounds_toArray, List.set_cons_zero, List.set_cons_succ]
      clear hb
      refine wpAnyH_take (i := 25) (oi := ⟨some 40, _, _, _, _, _⟩) (v := ?_) rfl (by kernel_rfl) (by kernel_rfl) (by kernel_rfl) (fun _ _ _ h => h) (Or.inl ⟨by rfl, ?_⟩) (by assumption) ?_
      rotate_left
      · (intro w hSw; (try dsimp only at hSw); go_simp; (try with_reducible rfl))
      try simp only [Act.put, List.setIfInBounds_toArray, List.set_cons_zero, List.set_cons_succ]
      refine wpAnyH_take (i := 26) (oi := ⟨some 4, _, _, _, _, _⟩) (v := ?_) rfl (by kernel_rfl) (by kernel_rfl) (by kernel_rfl) (fun _ _ _ h => h) (Or.inl ⟨by rfl, ?_⟩) (by assumption) ?_
      rotate_left
      · (intro w hSw; (try dsimp only at hSw); go_simp; (try with_reducible rfl))
      try simp only [Act.put, List.setIfInBounds_toArray, List.set_cons_zero, List.set_cons_succ]
      refine wpAnyH_done (by kernel_rfl) ?_ _
      have HZ := Lib.hid hHeld.2.2.out
      clear hHeld
      go_wp2_with fail
      go_ret
      exact ⟨rfl, below_next HB1.out HZ.out⟩
end Go.Proofs.YtlgfickhkejdjaaGreatDoor
