/-
  SyntaxPrograms, walked: Valid, Program, Size are the reference's.
-/
import Derived.Test.YtlgfickhkejdjaaGreatDoorMSyLawBase
import Derived.Test.YtlgfickhkejdjaaGreatDoorMSyRefP
import Derived.Test.YtlgfickhkejdjaaGreatDoorMSyRefSp
namespace Go.Proofs.YtlgfickhkejdjaaGreatDoor
open Go.RowKit Go.Maps

set_option maxRecDepth 100000 in
set_option maxHeartbeats 20000000 in
theorem law_programs (v0 : Value) (l0 : List Tr.C) (w : World) (hE : SyEnv w) (h0 : SlC w v0 l0) :
    Calls Tryz.prog 4 #[.agg #[v0]] w fun r w' => r = .returned (.bool true) ∧ Below w.heap.size w w' := by
  have hi0 := h0.i64
  obtain ⟨p0, c0, rfl⟩ := h0.form
  obtain ⟨N0, hN0⟩ : ∃ q, l0.length = q := ⟨_, rfl⟩
  rw [hN0] at h0 ⊢
  have hbc := box1_of w #[.slice p0 N0 c0] 32
  obtain ⟨w1, hw1⟩ : ∃ q, q = w.alloc (.cells #[.slice p0 N0 c0] 32) := ⟨_, rfl⟩
  rw [← hw1] at hbc
  obtain ⟨hb1, hc1⟩ := hbc
  have HW1 := Lib.hid hw1
  have HB1 := Lib.hid hb1
  have HC := Lib.hid hc1
  have hez := hE.keep hb1
  have hs0 := h0.keep hb1
  have KA : Hid (∀ W, Below w1.heap.size w1 W → Calls Tryz.prog 11 #[] W fun r w' => r = .returned (.bool true) ∧ Below W.heap.size W w') := fun W hb => awake38_any W (hez.keep hb)
  have KF0 : Hid (∀ W, Below w1.heap.size w1 W → Calls Tryz.prog 19 #[.agg #[.slice p0 N0 c0], .int .i64 120] W fun r w' => r = .returned (.bool (Tr.fewP l0 120)) ∧ Below W.heap.size W w') := fun W hb => few_any _ l0 120 W (hs0.keep hb) (by decide) (by decide)
  obtain ⟨V, hV⟩ : ∃ q, Tr.validP l0 = q := ⟨_, rfl⟩
  obtain ⟨T, hT⟩ : ∃ q : ByteArray, ⟨(Sy.programText l0).toArray⟩ = q := ⟨_, rfl⟩
  obtain ⟨Z, hZ⟩ : ∃ q, Sy.sizeP l0 = q := ⟨_, rfl⟩
  have hsm : Tr.fewP l0 120 = true → (∀ c ∈ l0, ∀ m ∈ c.methods, Tr.S.deep.deeps m.body ≤ 900000 ∧ m.params.length ≤ 1000000) ∧ Sy.sizeP l0 ≤ 1000 ∧ (Sy.progT l0).length ≤ 7000000 := fun h => by
    obtain ⟨x1, x2, x3⟩ := Sy.prog_small h (by decide) hi0
    exact ⟨fun c hc m hm => ⟨Nat.le_trans (x1 c hc m hm).1 (by decide), Nat.le_trans (x1 c hc m hm).2 (by decide)⟩, x2, x3⟩
  have K1 : Hid (Tr.fewP l0 120 = true → ∀ W, Below w1.heap.size w1 W → Calls Tryz.prog 20 #[.agg #[.slice p0 N0 c0]] W fun r w' => r = .returned (.bool V) ∧ Below W.heap.size W w') := fun hq W hb => by have h := valid_any _ l0 W (hez.syn.keep hb) (Tr.fitP_of hq (by decide)) (hs0.keep hb); rw [hV] at h; exact h
  have K2 : Hid (∀ W, Below w1.heap.size w1 W → Calls Tryz.prog 21 #[.agg #[.slice p0 N0 c0]] W fun r w' => r = .returned (.bool V) ∧ Below W.heap.size W w') := fun W hb => by have h := validR_any _ l0 W (hs0.keep hb); rw [hV] at h; exact h
  have K3 : Hid (Tr.fewP l0 120 = true → ∀ W, Below w1.heap.size w1 W → Calls Tryz.prog 22 #[.agg #[.slice p0 N0 c0]] W fun r w' => r = .returned (.string T) ∧ Below W.heap.size W w') := fun hq W hb => by have h := program_any _ l0 W (hez.keep hb) (Tr.fitP_of hq (by decide)) (hs0.keep hb) (hsm hq).1 (Nat.le_trans (hsm hq).2.2 (by decide)); rw [hT] at h; exact h
  have K4 : Hid (Tr.fewP l0 120 = true → ∀ W, Below w1.heap.size w1 W → Calls Tryz.prog 23 #[.agg #[.slice p0 N0 c0]] W fun r w' => r = .returned (.string T) ∧ Below W.heap.size W w') := fun hq W hb => by have h := refProgram_any _ l0 W (hs0.keep hb) (hsm hq).1 (Nat.le_trans (hsm hq).2.2 (by decide)); rw [hT] at h; exact h
  have K5 : Hid (Tr.fewP l0 120 = true → ∀ W, Below w1.heap.size w1 W → Calls Tryz.prog 24 #[.agg #[.slice p0 N0 c0]] W fun r w' => r = .returned (.int .i64 (Z : Nat)) ∧ Below W.heap.size W w') := fun hq W hb => by have h := size_any _ l0 W (hs0.keep hb) (Nat.le_trans (hsm hq).2.1 (by decide)); rw [hZ] at h; exact h
  have K6 : Hid (Tr.fewP l0 120 = true → ∀ W, Below w1.heap.size w1 W → Calls Tryz.prog 25 #[.agg #[.slice p0 N0 c0]] W fun r w' => r = .returned (.int .i64 (Z : Nat)) ∧ Below W.heap.size W w') := fun hq W hb => by have h := refSize_any _ l0 W (hs0.keep hb) (Nat.le_trans (hsm hq).2.1 (by decide)); rw [hZ] at h; exact h
  clear hE h0 hN0 hw1 hb1 hc1 hez hs0 hi0 hV hT hZ hsm
  cases hq0 : Tr.fewP l0 120
  · rw [hq0] at KF0
    clear hq0
    go_enter Tryz.func4, Tryz.ntmps4
    go_upto_region 1 with fail
    rw [← HW1.out]
    have HR := Lib.hid (Below.refl w1.heap.size w1)
    go_wp2_with fail
    refine (KA.out _ HR.out).mono ?_
    rintro r wy ⟨rfl, hby⟩
    have HR := Lib.hid (below_next HR.out hby)
    clear hby
    have d0_0 := ((HC.out _ HR.out) 0 _ rfl)
    go_wp2_with fail
    refine (KF0.out _ HR.out).mono ?_
    rintro r wy ⟨rfl, hby⟩
    have HR := Lib.hid (below_next HR.out hby)
    clear hby d0_0
    go_wp2_with fail
    go_ret
    exact ⟨rfl, below_next HB1.out HR.out⟩
  · have K1 := Lib.hid (K1.out hq0)
    have K3 := Lib.hid (K3.out hq0)
    have K4 := Lib.hid (K4.out hq0)
    have K5 := Lib.hid (K5.out hq0)
    have K6 := Lib.hid (K6.out hq0)
    rw [hq0] at KF0
    clear hq0
    go_enter Tryz.func4, Tryz.ntmps4
    go_upto_region 1 with fail
    rw [← HW1.out]
    have HR := Lib.hid (Below.refl w1.heap.size w1)
    go_wp2_with fail
    refine (KA.out _ HR.out).mono ?_
    rintro r wy ⟨rfl, hby⟩
    have HR := Lib.hid (below_next HR.out hby)
    clear hby
    have d0_0 := ((HC.out _ HR.out) 0 _ rfl)
    go_wp2_with fail
    refine (KF0.out _ HR.out).mono ?_
    rintro r wy ⟨rfl, hby⟩
    have HR := Lib.hid (below_next HR.out hby)
    clear hby d0_0
    have d0_0 := ((HC.out _ HR.out) 0 _ rfl)
    go_upto_region 5 with fail
    refine wp_region_held_drew (S := fun W => W.cell? ⟨w.heap.size, 0, none⟩ = some (.slice p0 N0 c0) ∧ Hid (Below w1.heap.size w1 W)) (by kernel_rfl) ?_ (fun hHeld => ?_)
    · exact ⟨d0_0, Lib.hid (HR.out).drew⟩
    clear d0_0
    refine wpAnyH_take (i := 0) (oi := ⟨some 8, _, _, _, _, _⟩) (v := ?_) rfl (by kernel_rfl) (by kernel_rfl) (by kernel_rfl) (fun _ _ _ h => h) (Or.inl ⟨by rfl, ?_⟩) (by assumption) ?_
    rotate_left
    · (intro w hSw; (try dsimp only at hSw); go_simp; (try with_reducible rfl))
    try simp only [Act.put, List.setIfInBounds_toArray, List.set_cons_zero, List.set_cons_succ]
    refine wpAnyH_take (i := 2) (oi := ⟨some 10, _, _, _, _, _⟩) (v := ?_) rfl (by kernel_rfl) (by kernel_rfl) (by kernel_rfl) (fun _ _ _ h => h) (Or.inl ⟨by rfl, ?_⟩) (by assumption) ?_
    rotate_left
    · (intro w hSw; (try dsimp only at hSw); go_simp; (try with_reducible rfl))
    try simp only [Act.put, List.setIfInBounds_toArray, List.set_cons_zero, List.set_cons_succ]
    refine wpAnyH_ready (rs := [1]) (by kernel_rfl) (by simp) ?_
    refine AllReadyH.cons (o := ⟨some 9, _, _, _, _, _⟩) rfl (fun K hK => ?_) AllReadyH.nil
    go_simp
    with_reducible refine (K1.out _ hHeld.2.out).mono ?_
    rintro e w' ⟨rfl, hb⟩
    go_wp2_with fail
    refine hK.out _ _ ?_ (fun hHeld => ?_)
    · exact ⟨cell_keep' hb hHeld.1, Lib.hid (below_next hHeld.2.out hb)⟩
    clear hK K
    try simp only [Act.put, List.setIfInBounds_toArray, List.set_cons_zero, List.set_cons_succ]
    clear hb
    refine wpAnyH_ready (rs := [3]) (by kernel_rfl) (by simp) ?_
    refine AllReadyH.cons (o := ⟨some 11, _, _, _, _, _⟩) rfl (fun K hK => ?_) AllReadyH.nil
    go_simp
    with_reducible refine (K2.out _ hHeld.2.out).mono ?_
    rintro e w' ⟨rfl, hb⟩
    go_wp2_with fail
    refine hK.out _ _ ?_ (fun hHeld => ?_)
    · exact ⟨cell_keep' hb hHeld.1, Lib.hid (below_next hHeld.2.out hb)⟩
    clear hK K
    try simp only [Act.put, List.setIfInBounds_toArray, List.set_cons_zero, List.set_cons_succ]
    clear hb
    refine wpAnyH_take (i := 4) (oi := ⟨some 12, _, _, _, _, _⟩) (v := ?_) rfl (by kernel_rfl) (by kernel_rfl) (by kernel_rfl) (fun _ _ _ h => h) (Or.inl ⟨by rfl, ?_⟩) (by assumption) ?_
    rotate_left
    · (intro w hSw; (try dsimp only at hSw); go_simp; (try with_reducible rfl))
    try simp only [Act.put, List.setIfInBounds_toArray, List.set_cons_zero, List.set_cons_succ]
    refine wpAnyH_take (i := 5) (oi := ⟨some 13, _, _, _, _, _⟩) (v := ?_) rfl (by kernel_rfl) (by kernel_rfl) (by kernel_rfl) (fun _ _ _ h => h) (Or.inl ⟨by rfl, ?_⟩) (by assumption) ?_
    rotate_left
    · (intro w hSw; (try dsimp only at hSw); go_simp; (try with_reducible rfl))
    try simp only [Act.put, List.setIfInBounds_toArray, List.set_cons_zero, List.set_cons_succ]
    refine wpAnyH_take (i := 6) (oi := ⟨some 14, _, _, _, _, _⟩) (v := ?_) rfl (by kernel_rfl) (by kernel_rfl) (by kernel_rfl) (fun _ _ _ h => h) (Or.inl ⟨by rfl, ?_⟩) (by assumption) ?_
    rotate_left
    · (intro w hSw; (try dsimp only at hSw); go_simp; (try with_reducible rfl))
    try simp only [Act.put, List.setIfInBounds_toArray, List.set_cons_zero, List.set_cons_succ]
    refine wpAnyH_take (i := 8) (oi := ⟨some 16, _, _, _, _, _⟩) (v := ?_) rfl (by kernel_rfl) (by kernel_rfl) (by kernel_rfl) (fun _ _ _ h => h) (Or.inl ⟨by rfl, ?_⟩) (by assumption) ?_
    rotate_left
    · (intro w hSw; (try dsimp only at hSw); go_simp; (try with_reducible rfl))
    try simp only [Act.put, List.setIfInBounds_toArray, List.set_cons_zero, List.set_cons_succ]
    refine wpAnyH_ready (rs := [7]) (by kernel_rfl) (by simp) ?_
    refine AllReadyH.cons (o := ⟨some 15, _, _, _, _, _⟩) rfl (fun K hK => ?_) AllReadyH.nil
    go_simp
    with_reducible refine (K3.out _ hHeld.2.out).mono ?_
    rintro e w' ⟨rfl, hb⟩
    go_wp2_with fail
    refine hK.out _ _ ?_ (fun hHeld => ?_)
    · exact ⟨cell_keep' hb hHeld.1, Lib.hid (below_next hHeld.2.out hb)⟩
    clear hK K
    try simp only [Act.put, List.setIfInBounds_toArray, List.set_cons_zero, List.set_cons_succ]
    clear hb
    refine wpAnyH_ready (rs := [9]) (by kernel_rfl) (by simp) ?_
    refine AllReadyH.cons (o := ⟨some 17, _, _, _, _, _⟩) rfl (fun K hK => ?_) AllReadyH.nil
    go_simp
    with_reducible refine (K4.out _ hHeld.2.out).mono ?_
    rintro e w' ⟨rfl, hb⟩
    go_wp2_with fail
    refine hK.out _ _ ?_ (fun hHeld => ?_)
    · exact ⟨cell_keep' hb hHeld.1, Lib.hid (below_next hHeld.2.out hb)⟩
    clear hK K
    try simp only [Act.put, List.setIfInBounds_toArray, List.set_cons_zero, List.set_cons_succ]
    clear hb
    refine wpAnyH_take (i := 10) (oi := ⟨some 18, _, _, _, _, _⟩) (v := ?_) rfl (by kernel_rfl) (by kernel_rfl) (by kernel_rfl) (fun _ _ _ h => h) (Or.inl ⟨by rfl, ?_⟩) (by assumption) ?_
    rotate_left
    · (intro w hSw; (try dsimp only at hSw); go_simp; (try with_reducible rfl))
    try simp only [Act.put, List.setIfInBounds_toArray, List.set_cons_zero, List.set_cons_succ]
    refine wpAnyH_take (i := 11) (oi := ⟨some 19, _, _, _, _, _⟩) (v := ?_) rfl (by kernel_rfl) (by kernel_rfl) (by kernel_rfl) (fun _ _ _ h => h) (Or.inl ⟨by rfl, ?_⟩) (by assumption) ?_
    rotate_left
    · (intro w hSw; (try dsimp only at hSw); go_simp; (try with_reducible rfl))
    try simp only [Act.put, List.setIfInBounds_toArray, List.set_cons_zero, List.set_cons_succ]
    refine wpAnyH_take (i := 12) (oi := ⟨some 20, _, _, _, _, _⟩) (v := ?_) rfl (by kernel_rfl) (by kernel_rfl) (by kernel_rfl) (fun _ _ _ h => h) (Or.inl ⟨by rfl, ?_⟩) (by assumption) ?_
    rotate_left
    · (intro w hSw; (try dsimp only at hSw); go_simp; (try with_reducible rfl))
    try simp only [Act.put, List.setIfInBounds_toArray, List.set_cons_zero, List.set_cons_succ]
    refine wpAnyH_take (i := 13) (oi := ⟨some 21, _, _, _, _, _⟩) (v := ?_) rfl (by kernel_rfl) (by kernel_rfl) (by kernel_rfl) (fun _ _ _ h => h) (Or.inl ⟨by rfl, ?_⟩) (by assumption) ?_
    rotate_left
    · (intro w hSw; (try dsimp only at hSw); go_simp; (try with_reducible rfl))
    try simp only [Act.put, List.setIfInBounds_toArray, List.set_cons_zero, List.set_cons_succ]
    refine wpAnyH_take (i := 15) (oi := ⟨some 23, _, _, _, _, _⟩) (v := ?_) rfl (by kernel_rfl) (by kernel_rfl) (by kernel_rfl) (fun _ _ _ h => h) (Or.inl ⟨by rfl, ?_⟩) (by assumption) ?_
    rotate_left
    · (intro w hSw; (try dsimp only at hSw); go_simp; (try with_reducible rfl))
    try simp only [Act.put, List.setIfInBounds_toArray, List.set_cons_zero, List.set_cons_succ]
    refine wpAnyH_ready (rs := [14]) (by kernel_rfl) (by simp) ?_
    refine AllReadyH.cons (o := ⟨some 22, _, _, _, _, _⟩) rfl (fun K hK => ?_) AllReadyH.nil
    go_simp
    with_reducible refine (K5.out _ hHeld.2.out).mono ?_
    rintro e w' ⟨rfl, hb⟩
    go_wp2_with fail
    refine hK.out _ _ ?_ (fun hHeld => ?_)
    · exact ⟨cell_keep' hb hHeld.1, Lib.hid (below_next hHeld.2.out hb)⟩
    clear hK K
    try simp only [Act.put, List.setIfInBounds_toArray, List.set_cons_zero, List.set_cons_succ]
    clear hb
    refine wpAnyH_ready (rs := [16]) (by kernel_rfl) (by simp) ?_
    refine AllReadyH.cons (o := ⟨some 24, _, _, _, _, _⟩) rfl (fun K hK => ?_) AllReadyH.nil
    go_simp
    with_reducible refine (K6.out _ hHeld.2.out).mono ?_
    rintro e w' ⟨rfl, hb⟩
    go_wp2_with fail
    refine hK.out _ _ ?_ (fun hHeld => ?_)
    · exact ⟨cell_keep' hb hHeld.1, Lib.hid (below_next hHeld.2.out hb)⟩
    clear hK K
    try simp only [Act.put, List.setIfInBounds_toArray, List.set_cons_zero, List.set_cons_succ]
    clear hb
    refine wpAnyH_take (i := 17) (oi := ⟨some 25, _, _, _, _, _⟩) (v := ?_) rfl (by kernel_rfl) (by kernel_rfl) (by kernel_rfl) (fun _ _ _ h => h) (Or.inl ⟨by rfl, ?_⟩) (by assumption) ?_
    rotate_left
    · (intro w hSw; (try dsimp only at hSw); go_simp; (try with_reducible rfl))
    try simp only [Act.put, List.setIfInBounds_toArray, List.set_cons_zero, List.set_cons_succ]
    refine wpAnyH_take (i := 18) (oi := ⟨some 26, _, _, _, _, _⟩) (v := ?_) rfl (by kernel_rfl) (by kernel_rfl) (by kernel_rfl) (fun _ _ _ h => h) (Or.inl ⟨by rfl, ?_⟩) (by assumption) ?_
    rotate_left
    · (intro w hSw; (try dsimp only at hSw); go_simp; (try with_reducible rfl))
    try simp only [Act.put, List.setIfInBounds_toArray, List.set_cons_zero, List.set_cons_succ]
    refine wpAnyH_take (i := 19) (oi := ⟨some 2, _, _, _, _, _⟩) (v := ?_) rfl (by kernel_rfl) (by kernel_rfl) (by kernel_rfl) (fun _ _ _ h => h) (Or.inl ⟨by rfl, ?_⟩) (by assumption) ?_
    rotate_left
    · (intro w hSw; (try dsimp only at hSw); go_simp; (try with_reducible rfl))
    try simp only [Act.put, List.setIfInBounds_toArray, List.set_cons_zero, List.set_cons_succ]
    refine wpAnyH_done (by kernel_rfl) ?_ _
    have HZ := Lib.hid hHeld.2.out
    clear hHeld
    go_wp2_with fail
    go_ret
    exact ⟨rfl, below_next HB1.out HZ.out⟩
end Go.Proofs.YtlgfickhkejdjaaGreatDoor
