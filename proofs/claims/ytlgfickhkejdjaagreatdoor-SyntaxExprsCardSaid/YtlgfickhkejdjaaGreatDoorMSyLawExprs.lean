/-
  SyntaxExprs, walked: ValidExpr, Expr, EqualExpr are the reference's.
-/
import Derived.Test.YtlgfickhkejdjaaGreatDoorMSyLawBase
import Derived.Test.YtlgfickhkejdjaaGreatDoorMSyRefTx
namespace Go.Proofs.YtlgfickhkejdjaaGreatDoor
open Go.RowKit Go.Maps

theorem sameE_refl (e : Tr.E) : Sy.sameE e e = true := (Sy.sameE_iff _ _).2 rfl

set_option maxRecDepth 100000 in
set_option maxHeartbeats 20000000 in
theorem law_exprs (e0 : Tr.E) (a0 : Value) (e1 : Tr.E) (a1 : Value) (w : World) (hE : SyEnv w) (h0 : BdE e0 ∧ SlE w a0 e0.args) (h1 : BdE e1 ∧ SlE w a1 e1.args) :
    Calls Tryz.prog 3 #[exprV e0 a0, exprV e1 a1] w fun r w' => r = .returned (.bool true) ∧ Below w.heap.size w w' := by
  obtain ⟨hbd0, h0⟩ := h0
  have hi0 : Sy.i64E e0 := (Sy.i64E_eq e0).2 ⟨hbd0.int, h0.i64⟩
  obtain ⟨p0, c0, rfl, _⟩ := h0.form
  obtain ⟨N0, hN0⟩ : ∃ q, e0.args.length = q := ⟨_, rfl⟩
  rw [hN0] at h0 ⊢
  obtain ⟨hbd1, h1⟩ := h1
  have hi1 : Sy.i64E e1 := (Sy.i64E_eq e1).2 ⟨hbd1.int, h1.i64⟩
  obtain ⟨p1, c1, rfl, _⟩ := h1.form
  obtain ⟨N1, hN1⟩ : ∃ q, e1.args.length = q := ⟨_, rfl⟩
  rw [hN1] at h1 ⊢
  have hbc := box2_of w #[.int .i64 e0.kind, .int .i64 e0.op, .int .i64 e0.int, .string e0.name, .bool e0.at_, .slice p0 N0 c0] #[.int .i64 e1.kind, .int .i64 e1.op, .int .i64 e1.int, .string e1.name, .bool e1.at_, .slice p1 N1 c1] 24 24
  obtain ⟨w1, hw1⟩ : ∃ q, q = (w.alloc (.cells #[.int .i64 e0.kind, .int .i64 e0.op, .int .i64 e0.int, .string e0.name, .bool e0.at_, .slice p0 N0 c0] 24)).alloc (.cells #[.int .i64 e1.kind, .int .i64 e1.op, .int .i64 e1.int, .string e1.name, .bool e1.at_, .slice p1 N1 c1] 24) := ⟨_, rfl⟩
  rw [← hw1] at hbc
  obtain ⟨hb1, hc1⟩ := hbc
  have HW1 := Lib.hid hw1
  have HB1 := Lib.hid hb1
  have HC := Lib.hid hc1
  have hez := hE.keep hb1
  have hs0 := h0.keep hb1
  have hs1 := h1.keep hb1
  have KA : Hid (∀ W, Below w1.heap.size w1 W → Calls Tryz.prog 11 #[] W fun r w' => r = .returned (.bool true) ∧ Below W.heap.size W w') := fun W hb => awake38_any W (hez.keep hb)
  have KF0 : Hid (∀ W, Below w1.heap.size w1 W → Calls Tryz.prog 12 #[.agg #[.int .i64 e0.kind, .int .i64 e0.op, .int .i64 e0.int, .string e0.name, .bool e0.at_, .slice p0 N0 c0], .int .i64 60] W fun r w' => r = .returned (.bool (Tr.fewE e0 60)) ∧ Below W.heap.size W w') := fun W hb => fewExpr_any e0 _ 60 W hbd0 (hs0.keep hb) (by decide) (by decide)
  have KF1 : Hid (∀ W, Below w1.heap.size w1 W → Calls Tryz.prog 12 #[.agg #[.int .i64 e1.kind, .int .i64 e1.op, .int .i64 e1.int, .string e1.name, .bool e1.at_, .slice p1 N1 c1], .int .i64 60] W fun r w' => r = .returned (.bool (Tr.fewE e1 60)) ∧ Below W.heap.size W w') := fun W hb => fewExpr_any e1 _ 60 W hbd1 (hs1.keep hb) (by decide) (by decide)
  obtain ⟨V, hV⟩ : ∃ q, Tr.validE e0 = q := ⟨_, rfl⟩
  obtain ⟨T, hT⟩ : ∃ q : ByteArray, ⟨(Sy.exprText e0).toArray⟩ = q := ⟨_, rfl⟩
  obtain ⟨Q, hQ⟩ : ∃ q, Sy.sameE e0 e1 = q := ⟨_, rfl⟩
  have hsz : Tr.fewE e0 60 = true → (Sy.text e0).length ≤ 100000 := fun h => (Sy.expr_small h (by decide) (by decide) hi0).2.2
  have K1 : Hid (∀ W, Below w1.heap.size w1 W → Calls Tryz.prog 13 #[.agg #[.int .i64 e0.kind, .int .i64 e0.op, .int .i64 e0.int, .string e0.name, .bool e0.at_, .slice p0 N0 c0]] W fun r w' => r = .returned (.bool V) ∧ Below W.heap.size W w') := fun W hb => by have h := validExpr_any _ e0 _ W (Nat.le_refl _) (hez.syn.lex.keep hb) hbd0 (hs0.keep hb); rw [hV] at h; exact h
  have K2 : Hid (∀ W, Below w1.heap.size w1 W → Calls Tryz.prog 14 #[.agg #[.int .i64 e0.kind, .int .i64 e0.op, .int .i64 e0.int, .string e0.name, .bool e0.at_, .slice p0 N0 c0]] W fun r w' => r = .returned (.bool V) ∧ Below W.heap.size W w') := fun W hb => by have h := validExprR_any _ e0 _ W (Nat.le_refl _) hbd0 (hs0.keep hb); rw [hV] at h; exact h
  have K3 : Hid (Tr.fewE e0 60 = true → ∀ W, Below w1.heap.size w1 W → Calls Tryz.prog 15 #[.agg #[.int .i64 e0.kind, .int .i64 e0.op, .int .i64 e0.int, .string e0.name, .bool e0.at_, .slice p0 N0 c0]] W fun r w' => r = .returned (.string T) ∧ Below W.heap.size W w') := fun hq W hb => by have h := syExpr_any e0 _ W (hez.keep hb) hbd0 (hs0.keep hb) (Nat.le_trans (hsz hq) (by decide)); rw [hT] at h; exact h
  have K4 : Hid (Tr.fewE e0 60 = true → ∀ W, Below w1.heap.size w1 W → Calls Tryz.prog 16 #[.agg #[.int .i64 e0.kind, .int .i64 e0.op, .int .i64 e0.int, .string e0.name, .bool e0.at_, .slice p0 N0 c0]] W fun r w' => r = .returned (.string T) ∧ Below W.heap.size W w') := fun hq W hb => by have h := refExpr_any e0 _ W hbd0 (hs0.keep hb) (Nat.le_trans (hsz hq) (by decide)); rw [hT] at h; exact h
  have K5 : Hid (∀ W, Below w1.heap.size w1 W → Calls Tryz.prog 17 #[.agg #[.int .i64 e0.kind, .int .i64 e0.op, .int .i64 e0.int, .string e0.name, .bool e0.at_, .slice p0 N0 c0], .agg #[.int .i64 e1.kind, .int .i64 e1.op, .int .i64 e1.int, .string e1.name, .bool e1.at_, .slice p1 N1 c1]] W fun r w' => r = .returned (.bool Q) ∧ Below W.heap.size W w') := fun W hb => by have h := equalExpr_any _ e0 e1 _ _ W (Nat.le_refl _) (hs0.keep hb) (hs1.keep hb); rw [hQ] at h; exact h
  have K6 : Hid (∀ W, Below w1.heap.size w1 W → Calls Tryz.prog 18 #[.agg #[.int .i64 e0.kind, .int .i64 e0.op, .int .i64 e0.int, .string e0.name, .bool e0.at_, .slice p0 N0 c0], .agg #[.int .i64 e1.kind, .int .i64 e1.op, .int .i64 e1.int, .string e1.name, .bool e1.at_, .slice p1 N1 c1]] W fun r w' => r = .returned (.bool Q) ∧ Below W.heap.size W w') := fun W hb => by have h := refSameExpr_any _ e0 e1 _ _ W (Nat.le_refl _) (hs0.keep hb) (hs1.keep hb); rw [hQ] at h; exact h
  have K7 : Hid (∀ W, Below w1.heap.size w1 W → Calls Tryz.prog 17 #[.agg #[.int .i64 e0.kind, .int .i64 e0.op, .int .i64 e0.int, .string e0.name, .bool e0.at_, .slice p0 N0 c0], .agg #[.int .i64 e0.kind, .int .i64 e0.op, .int .i64 e0.int, .string e0.name, .bool e0.at_, .slice p0 N0 c0]] W fun r w' => r = .returned (.bool true) ∧ Below W.heap.size W w') := fun W hb => by have h := equalExpr_any _ e0 e0 _ _ W (Nat.le_refl _) (hs0.keep hb) (hs0.keep hb); rw [sameE_refl] at h; exact h
  clear hE h0 h1 hN0 hN1 hw1 hb1 hc1 hez hs0 hs1 hi0 hi1 hQ hV hT hsz hbd0 hbd1
  unfold exprV
  cases hq0 : Tr.fewE e0 60
  · rw [hq0] at KF0
    clear hq0
    go_enter Tryz.func3, Tryz.ntmps3
    go_upto_region 1 with fail
    rw [← HW1.out]
    have HR := Lib.hid (Below.refl w1.heap.size w1)
    go_wp2_with fail
    refine (KA.out _ HR.out).mono ?_
    rintro r wy ⟨rfl, hby⟩
    have HR := Lib.hid (below_next HR.out hby)
    clear hby
    have d0_0 := ((HC.out _ HR.out).1 0 _ rfl)
    have d0_1 := ((HC.out _ HR.out).1 1 _ rfl)
    have d0_2 := ((HC.out _ HR.out).1 2 _ rfl)
    have d0_3 := ((HC.out _ HR.out).1 3 _ rfl)
    have d0_4 := ((HC.out _ HR.out).1 4 _ rfl)
    have d0_5 := ((HC.out _ HR.out).1 5 _ rfl)
    go_wp2_with fail
    refine (KF0.out _ HR.out).mono ?_
    rintro r wy ⟨rfl, hby⟩
    have HR := Lib.hid (below_next HR.out hby)
    clear hby d0_0 d0_1 d0_2 d0_3 d0_4 d0_5
    go_wp2_with fail
    go_ret
    exact ⟨rfl, below_next HB1.out HR.out⟩
  · have K3 := Lib.hid (K3.out hq0)
    have K4 := Lib.hid (K4.out hq0)
    rw [hq0] at KF0
    clear hq0
    cases hq1 : Tr.fewE e1 60
    · rw [hq1] at KF1
      clear hq1
      go_enter Tryz.func3, Tryz.ntmps3
      go_upto_region 1 with fail
      rw [← HW1.out]
      have HR := Lib.hid (Below.refl w1.heap.size w1)
      go_wp2_with fail
      refine (KA.out _ HR.out).mono ?_
      rintro r wy ⟨rfl, hby⟩
      have HR := Lib.hid (below_next HR.out hby)
      clear hby
      have d0_0 := ((HC.out _ HR.out).1 0 _ rfl)
      have d0_1 := ((HC.out _ HR.out).1 1 _ rfl)
      have d0_2 := ((HC.out _ HR.out).1 2 _ rfl)
      have d0_3 := ((HC.out _ HR.out).1 3 _ rfl)
      have d0_4 := ((HC.out _ HR.out).1 4 _ rfl)
      have d0_5 := ((HC.out _ HR.out).1 5 _ rfl)
      go_wp2_with fail
      refine (KF0.out _ HR.out).mono ?_
      rintro r wy ⟨rfl, hby⟩
      have HR := Lib.hid (below_next HR.out hby)
      clear hby d0_0 d0_1 d0_2 d0_3 d0_4 d0_5
      have d1_0 := ((HC.out _ HR.out).2 0 _ rfl)
      have d1_1 := ((HC.out _ HR.out).2 1 _ rfl)
      have d1_2 := ((HC.out _ HR.out).2 2 _ rfl)
      have d1_3 := ((HC.out _ HR.out).2 3 _ rfl)
      have d1_4 := ((HC.out _ HR.out).2 4 _ rfl)
      have d1_5 := ((HC.out _ HR.out).2 5 _ rfl)
      go_wp2_with fail
      refine (KF1.out _ HR.out).mono ?_
      rintro r wy ⟨rfl, hby⟩
      have HR := Lib.hid (below_next HR.out hby)
      clear hby d1_0 d1_1 d1_2 d1_3 d1_4 d1_5
      go_wp2_with fail
      go_ret
      exact ⟨rfl, below_next HB1.out HR.out⟩
    · rw [hq1] at KF1
      clear hq1
      go_enter Tryz.func3, Tryz.ntmps3
      go_upto_region 1 with fail
      rw [← HW1.out]
      have HR := Lib.hid (Below.refl w1.heap.size w1)
      go_wp2_with fail
      refine (KA.out _ HR.out).mono ?_
      rintro r wy ⟨rfl, hby⟩
      have HR := Lib.hid (below_next HR.out hby)
      clear hby
      have d0_0 := ((HC.out _ HR.out).1 0 _ rfl)
      have d0_1 := ((HC.out _ HR.out).1 1 _ rfl)
      have d0_2 := ((HC.out _ HR.out).1 2 _ rfl)
      have d0_3 := ((HC.out _ HR.out).1 3 _ rfl)
      have d0_4 := ((HC.out _ HR.out).1 4 _ rfl)
      have d0_5 := ((HC.out _ HR.out).1 5 _ rfl)
      go_wp2_with fail
      refine (KF0.out _ HR.out).mono ?_
      rintro r wy ⟨rfl, hby⟩
      have HR := Lib.hid (below_next HR.out hby)
      clear hby d0_0 d0_1 d0_2 d0_3 d0_4 d0_5
      have d1_0 := ((HC.out _ HR.out).2 0 _ rfl)
      have d1_1 := ((HC.out _ HR.out).2 1 _ rfl)
      have d1_2 := ((HC.out _ HR.out).2 2 _ rfl)
      have d1_3 := ((HC.out _ HR.out).2 3 _ rfl)
      have d1_4 := ((HC.out _ HR.out).2 4 _ rfl)
      have d1_5 := ((HC.out _ HR.out).2 5 _ rfl)
      go_wp2_with fail
      refine (KF1.out _ HR.out).mono ?_
      rintro r wy ⟨rfl, hby⟩
      have HR := Lib.hid (below_next HR.out hby)
      clear hby d1_0 d1_1 d1_2 d1_3 d1_4 d1_5
      have d0_0 := ((HC.out _ HR.out).1 0 _ rfl)
      have d0_1 := ((HC.out _ HR.out).1 1 _ rfl)
      have d0_2 := ((HC.out _ HR.out).1 2 _ rfl)
      have d0_3 := ((HC.out _ HR.out).1 3 _ rfl)
      have d0_4 := ((HC.out _ HR.out).1 4 _ rfl)
      have d0_5 := ((HC.out _ HR.out).1 5 _ rfl)
      have d1_0 := ((HC.out _ HR.out).2 0 _ rfl)
      have d1_1 := ((HC.out _ HR.out).2 1 _ rfl)
      have d1_2 := ((HC.out _ HR.out).2 2 _ rfl)
      have d1_3 := ((HC.out _ HR.out).2 3 _ rfl)
      have d1_4 := ((HC.out _ HR.out).2 4 _ rfl)
      have d1_5 := ((HC.out _ HR.out).2 5 _ rfl)
      go_upto_region 5 with fail
      refine wp_region_held_drew (S := fun W => W.cell? ⟨w.heap.size, 0, none⟩ = some (.int .i64 e0.kind) ∧ W.cell? ⟨w.heap.size, 1, none⟩ = some (.int .i64 e0.op) ∧ W.cell? ⟨w.heap.size, 2, none⟩ = some (.int .i64 e0.int) ∧ W.cell? ⟨w.heap.size, 3, none⟩ = some (.string e0.name) ∧ W.cell? ⟨w.heap.size, 4, none⟩ = some (.bool e0.at_) ∧ W.cell? ⟨w.heap.size, 5, none⟩ = some (.slice p0 N0 c0) ∧ W.cell? ⟨w.heap.size + 1, 0, none⟩ = some (.int .i64 e1.kind) ∧ W.cell? ⟨w.heap.size + 1, 1, none⟩ = some (.int .i64 e1.op) ∧ W.cell? ⟨w.heap.size + 1, 2, none⟩ = some (.int .i64 e1.int) ∧ W.cell? ⟨w.heap.size + 1, 3, none⟩ = some (.string e1.name) ∧ W.cell? ⟨w.heap.size + 1, 4, none⟩ = some (.bool e1.at_) ∧ W.cell? ⟨w.heap.size + 1, 5, none⟩ = some (.slice p1 N1 c1) ∧ Hid (Below w1.heap.size w1 W)) (by kernel_rfl) ?_ (fun hHeld => ?_)
      · exact ⟨d0_0, d0_1, d0_2, d0_3, d0_4, d0_5, d1_0, d1_1, d1_2, d1_3, d1_4, d1_5, Lib.hid (HR.out).drew⟩
      clear d0_0 d0_1 d0_2 d0_3 d0_4 d0_5 d1_0 d1_1 d1_2 d1_3 d1_4 d1_5
      refine wpAnyH_take (i := 0) (oi := ⟨some 15, _, _, _, _, _⟩) (v := ?_) rfl (by kernel_rfl) (by kernel_rfl) (by kernel_rfl) (fun _ _ _ h => h) (Or.inl ⟨by rfl, ?_⟩) (by assumption) ?_
      rotate_left
      · (intro w hSw; (try dsimp only at hSw); go_simp; (try with_reducible rfl))
      try simp only [Act.put, List.setIfInBounds_toArray, List.set_cons_zero, List.set_cons_succ]
      refine wpAnyH_take (i := 2) (oi := ⟨some 17, _, _, _, _, _⟩) (v := ?_) rfl (by kernel_rfl) (by kernel_rfl) (by kernel_rfl) (fun _ _ _ h => h) (Or.inl ⟨by rfl, ?_⟩) (by assumption) ?_
      rotate_left
      · (intro w hSw; (try dsimp only at hSw); go_simp; (try with_reducible rfl))
      try simp only [Act.put, List.setIfInBounds_toArray, List.set_cons_zero, List.set_cons_succ]
      refine wpAnyH_ready (rs := [1]) (by kernel_rfl) (by simp) ?_
      refine AllReadyH.cons (o := ⟨some 16, _, _, _, _, _⟩) rfl (fun K hK => ?_) AllReadyH.nil
      go_simp
      with_reducible refine (K1.out _ hHeld.2.2.2.2.2.2.2.2.2.2.2.2.out).mono ?_
      rintro e w' ⟨rfl, hb⟩
      go_wp2_with fail
      refine hK.out _ _ ?_ (fun hHeld => ?_)
      · exact ⟨cell_keep' hb hHeld.1, cell_keep' hb hHeld.2.1, cell_keep' hb hHeld.2.2.1, cell_keep' hb hHeld.2.2.2.1, cell_keep' hb hHeld.2.2.2.2.1, cell_keep' hb hHeld.2.2.2.2.2.1, cell_keep' hb hHeld.2.2.2.2.2.2.1, cell_keep' hb hHeld.2.2.2.2.2.2.2.1, cell_keep' hb hHeld.2.2.2.2.2.2.2.2.1, cell_keep' hb hHeld.2.2.2.2.2.2.2.2.2.1, cell_keep' hb hHeld.2.2.2.2.2.2.2.2.2.2.1, cell_keep' hb hHeld.2.2.2.2.2.2.2.2.2.2.2.1, Lib.hid (below_next hHeld.2.2.2.2.2.2.2.2.2.2.2.2.out hb)⟩
      clear hK K
      try simp only [Act.put, List.setIfInBounds_toArray, List.set_cons_zero, List.set_cons_succ]
      clear hb
      refine wpAnyH_ready (rs := [3]) (by kernel_rfl) (by simp) ?_
      refine AllReadyH.cons (o := ⟨some 18, _, _, _, _, _⟩) rfl (fun K hK => ?_) AllReadyH.nil
      go_simp
      with_reducible refine (K2.out _ hHeld.2.2.2.2.2.2.2.2.2.2.2.2.out).mono ?_
      rintro e w' ⟨rfl, hb⟩
      go_wp2_with fail
      refine hK.out _ _ ?_ (fun hHeld => ?_)
      · exact ⟨cell_keep' hb hHeld.1, cell_keep' hb hHeld.2.1, cell_keep' hb hHeld.2.2.1, cell_keep' hb hHeld.2.2.2.1, cell_keep' hb hHeld.2.2.2.2.1, cell_keep' hb hHeld.2.2.2.2.2.1, cell_keep' hb hHeld.2.2.2.2.2.2.1, cell_keep' hb hHeld.2.2.2.2.2.2.2.1, cell_keep' hb hHeld.2.2.2.2.2.2.2.2.1, cell_keep' hb hHeld.2.2.2.2.2.2.2.2.2.1, cell_keep' hb hHeld.2.2.2.2.2.2.2.2.2.2.1, cell_keep' hb hHeld.2.2.2.2.2.2.2.2.2.2.2.1, Lib.hid (below_next hHeld.2.2.2.2.2.2.2.2.2.2.2.2.out hb)⟩
      clear hK K
      try simp only [Act.put, List.setIfInBounds_toArray, List.set_cons_zero, List.set_cons_succ]
      clear hb
      refine wpAnyH_take (i := 4) (oi := ⟨some 19, _, _, _, _, _⟩) (v := ?_) rfl (by kernel_rfl) (by kernel_rfl) (by kernel_rfl) (fun _ _ _ h => h) (Or.inl ⟨by rfl, ?_⟩) (by assumption) ?_
      rotate_left
      · (intro w hSw; (try dsimp only at hSw); go_simp; (try with_reducible rfl))
      try simp only [Act.put, List.setIfInBounds_toArray, List.set_cons_zero, List.set_cons_succ]
      refine wpAnyH_take (i := 5) (oi := ⟨some 20, _, _, _, _, _⟩) (v := ?_) rfl (by kernel_rfl) (by kernel_rfl) (by kernel_rfl) (fun _ _ _ h => h) (Or.inl ⟨by rfl, ?_⟩) (by assumption) ?_
      rotate_left
      · (intro w hSw; (try dsimp only at hSw); go_simp; (try with_reducible rfl))
      try simp only [Act.put, List.setIfInBounds_toArray, List.set_cons_zero, List.set_cons_succ]
      refine wpAnyH_take (i := 6) (oi := ⟨some 21, _, _, _, _, _⟩) (v := ?_) rfl (by kernel_rfl) (by kernel_rfl) (by kernel_rfl) (fun _ _ _ h => h) (Or.inl ⟨by rfl, ?_⟩) (by assumption) ?_
      rotate_left
      · (intro w hSw; (try dsimp only at hSw); go_simp; (try with_reducible rfl))
      try simp only [Act.put, List.setIfInBounds_toArray, List.set_cons_zero, List.set_cons_succ]
      refine wpAnyH_take (i := 8) (oi := ⟨some 23, _, _, _, _, _⟩) (v := ?_) rfl (by kernel_rfl) (by kernel_rfl) (by kernel_rfl) (fun _ _ _ h => h) (Or.inl ⟨by rfl, ?_⟩) (by assumption) ?_
      rotate_left
      · (intro w hSw; (try dsimp only at hSw); go_simp; (try with_reducible rfl))
      try simp only [Act.put, List.setIfInBounds_toArray, List.set_cons_zero, List.set_cons_succ]
      refine wpAnyH_ready (rs := [7]) (by kernel_rfl) (by simp) ?_
      refine AllReadyH.cons (o := ⟨some 22, _, _, _, _, _⟩) rfl (fun K hK => ?_) AllReadyH.nil
      go_simp
      with_reducible refine (K3.out _ hHeld.2.2.2.2.2.2.2.2.2.2.2.2.out).mono ?_
      rintro e w' ⟨rfl, hb⟩
      go_wp2_with fail
      refine hK.out _ _ ?_ (fun hHeld => ?_)
      · exact ⟨cell_keep' hb hHeld.1, cell_keep' hb hHeld.2.1, cell_keep' hb hHeld.2.2.1, cell_keep' hb hHeld.2.2.2.1, cell_keep' hb hHeld.2.2.2.2.1, cell_keep' hb hHeld.2.2.2.2.2.1, cell_keep' hb hHeld.2.2.2.2.2.2.1, cell_keep' hb hHeld.2.2.2.2.2.2.2.1, cell_keep' hb hHeld.2.2.2.2.2.2.2.2.1, cell_keep' hb hHeld.2.2.2.2.2.2.2.2.2.1, cell_keep' hb hHeld.2.2.2.2.2.2.2.2.2.2.1, cell_keep' hb hHeld.2.2.2.2.2.2.2.2.2.2.2.1, Lib.hid (below_next hHeld.2.2.2.2.2.2.2.2.2.2.2.2.out hb)⟩
      clear hK K
      try simp only [Act.put, List.setIfInBounds_toArray, List.set_cons_zero, List.set_cons_succ]
      clear hb
      refine wpAnyH_ready (rs := [9]) (by kernel_rfl) (by simp) ?_
      refine AllReadyH.cons (o := ⟨some 24, _, _, _, _, _⟩) rfl (fun K hK => ?_) AllReadyH.nil
      go_simp
      with_reducible refine (K4.out _ hHeld.2.2.2.2.2.2.2.2.2.2.2.2.out).mono ?_
      rintro e w' ⟨rfl, hb⟩
      go_wp2_with fail
      refine hK.out _ _ ?_ (fun hHeld => ?_)
      · exact ⟨cell_keep' hb hHeld.1, cell_keep' hb hHeld.2.1, cell_keep' hb hHeld.2.2.1, cell_keep' hb hHeld.2.2.2.1, cell_keep' hb hHeld.2.2.2.2.1, cell_keep' hb hHeld.2.2.2.2.2.1, cell_keep' hb hHeld.2.2.2.2.2.2.1, cell_keep' hb hHeld.2.2.2.2.2.2.2.1, cell_keep' hb hHeld.2.2.2.2.2.2.2.2.1, cell_keep' hb hHeld.2.2.2.2.2.2.2.2.2.1, cell_keep' hb hHeld.2.2.2.2.2.2.2.2.2.2.1, cell_keep' hb hHeld.2.2.2.2.2.2.2.2.2.2.2.1, Lib.hid (below_next hHeld.2.2.2.2.2.2.2.2.2.2.2.2.out hb)⟩
      clear hK K
      try simp only [Act.put, List.setIfInBounds_toArray, List.set_cons_zero, List.set_cons_succ]
      clear hb
      refine wpAnyH_take (i := 10) (oi := ⟨some 25, _, _, _, _, _⟩) (v := ?_) rfl (by kernel_rfl) (by kernel_rfl) (by kernel_rfl) (fun _ _ _ h => h) (Or.inl ⟨by rfl, ?_⟩) (by assumption) ?_
      rotate_left
      · (intro w hSw; (try dsimp only at hSw); go_simp; (try with_reducible rfl))
      try simp only [Act.put, List.setIfInBounds_toArray, List.set_cons_zero, List.set_cons_succ]
      refine wpAnyH_take (i := 11) (oi := ⟨some 26, _, _, _, _, _⟩) (v := ?_) rfl (by kernel_rfl) (by kernel_rfl) (by kernel_rfl) (fun _ _ _ h => h) (Or.inl ⟨by rfl, ?_⟩) (by assumption) ?_
      rotate_left
      · (intro w hSw; (try dsimp only at hSw); go_simp; (try with_reducible rfl))
      try simp only [Act.put, List.setIfInBounds_toArray, List.set_cons_zero, List.set_cons_succ]
      refine wpAnyH_take (i := 12) (oi := ⟨some 27, _, _, _, _, _⟩) (v := ?_) rfl (by kernel_rfl) (by kernel_rfl) (by kernel_rfl) (fun _ _ _ h => h) (Or.inl ⟨by rfl, ?_⟩) (by assumption) ?_
      rotate_left
      · (intro w hSw; (try dsimp only at hSw); go_simp; (try with_reducible rfl))
      try simp only [Act.put, List.setIfInBounds_toArray, List.set_cons_zero, List.set_cons_succ]
      refine wpAnyH_take (i := 13) (oi := ⟨some 28, _, _, _, _, _⟩) (v := ?_) rfl (by kernel_rfl) (by kernel_rfl) (by kernel_rfl) (fun _ _ _ h => h) (Or.inl ⟨by rfl, ?_⟩) (by assumption) ?_
      rotate_left
      · (intro w hSw; (try dsimp only at hSw); go_simp; (try with_reducible rfl))
      try simp only [Act.put, List.setIfInBounds_toArray, List.set_cons_zero, List.set_cons_succ]
      refine wpAnyH_take (i := 14) (oi := ⟨some 29, _, _, _, _, _⟩) (v := ?_) rfl (by kernel_rfl) (by kernel_rfl) (by kernel_rfl) (fun _ _ _ h => h) (Or.inl ⟨by rfl, ?_⟩) (by assumption) ?_
      rotate_left
      · (intro w hSw; (try dsimp only at hSw); go_simp; (try with_reducible rfl))
      try simp only [Act.put, List.setIfInBounds_toArray, List.set_cons_zero, List.set_cons_succ]
      refine wpAnyH_take (i := 16) (oi := ⟨some 31, _, _, _, _, _⟩) (v := ?_) rfl (by kernel_rfl) (by kernel_rfl) (by kernel_rfl) (fun _ _ _ h => h) (Or.inl ⟨by rfl, ?_⟩) (by assumption) ?_
      rotate_left
      · (intro w hSw; (try dsimp only at hSw); go_simp; (try with_reducible rfl))
      try simp only [Act.put, List.setIfInBounds_toArray, List.set_cons_zero, List.set_cons_succ]
      refine wpAnyH_take (i := 17) (oi := ⟨some 32, _, _, _, _, _⟩) (v := ?_) rfl (by kernel_rfl) (by kernel_rfl) (by kernel_rfl) (fun _ _ _ h => h) (Or.inl ⟨by rfl, ?_⟩) (by assumption) ?_
      rotate_left
      · (intro w hSw; (try dsimp only at hSw); go_simp; (try with_reducible rfl))
      try simp only [Act.put, List.setIfInBounds_toArray, List.set_cons_zero, List.set_cons_succ]
      refine wpAnyH_ready (rs := [15]) (by kernel_rfl) (by simp) ?_
      refine AllReadyH.cons (o := ⟨some 30, _, _, _, _, _⟩) rfl (fun K hK => ?_) AllReadyH.nil
      go_simp
      with_reducible refine (K5.out _ hHeld.2.2.2.2.2.2.2.2.2.2.2.2.out).mono ?_
      rintro e w' ⟨rfl, hb⟩
      go_wp2_with fail
      refine hK.out _ _ ?_ (fun hHeld => ?_)
      · exact ⟨cell_keep' hb hHeld.1, cell_keep' hb hHeld.2.1, cell_keep' hb hHeld.2.2.1, cell_keep' hb hHeld.2.2.2.1, cell_keep' hb hHeld.2.2.2.2.1, cell_keep' hb hHeld.2.2.2.2.2.1, cell_keep' hb hHeld.2.2.2.2.2.2.1, cell_keep' hb hHeld.2.2.2.2.2.2.2.1, cell_keep' hb hHeld.2.2.2.2.2.2.2.2.1, cell_keep' hb hHeld.2.2.2.2.2.2.2.2.2.1, cell_keep' hb hHeld.2.2.2.2.2.2.2.2.2.2.1, cell_keep' hb hHeld.2.2.2.2.2.2.2.2.2.2.2.1, Lib.hid (below_next hHeld.2.2.2.2.2.2.2.2.2.2.2.2.out hb)⟩
      clear hK K
      try simp only [Act.put, List.setIfInBounds_toArray, List.set_cons_zero, List.set_cons_succ]
      clear hb
      refine wpAnyH_ready (rs := [18]) (by kernel_rfl) (by simp) ?_
      refine AllReadyH.cons (o := ⟨some 33, _, _, _, _, _⟩) rfl (fun K hK => ?_) AllReadyH.nil
      go_simp
      with_reducible refine (K6.out _ hHeld.2.2.2.2.2.2.2.2.2.2.2.2.out).mono ?_
      rintro e w' ⟨rfl, hb⟩
      go_wp2_with fail
      refine hK.out _ _ ?_ (fun hHeld => ?_)
      · exact ⟨cell_keep' hb hHeld.1, cell_keep' hb hHeld.2.1, cell_keep' hb hHeld.2.2.1, cell_keep' hb hHeld.2.2.2.1, cell_keep' hb hHeld.2.2.2.2.1, cell_keep' hb hHeld.2.2.2.2.2.1, cell_keep' hb hHeld.2.2.2.2.2.2.1, cell_keep' hb hHeld.2.2.2.2.2.2.2.1, cell_keep' hb hHeld.2.2.2.2.2.2.2.2.1, cell_keep' hb hHeld.2.2.2.2.2.2.2.2.2.1, cell_keep' hb hHeld.2.2.2.2.2.2.2.2.2.2.1, cell_keep' hb hHeld.2.2.2.2.2.2.2.2.2.2.2.1, Lib.hid (below_next hHeld.2.2.2.2.2.2.2.2.2.2.2.2.out hb)⟩
      clear hK K
      try simp only [Act.put, List.setIfInBounds_toArray, List.set_cons_zero, List.set_cons_succ]
      clear hb
      refine wpAnyH_take (i := 19) (oi := ⟨some 34, _, _, _, _, _⟩) (v := ?_) rfl (by kernel_rfl) (by kernel_rfl) (by kernel_rfl) (fun _ _ _ h => h) (Or.inl ⟨by rfl, ?_⟩) (by assumption) ?_
      rotate_left
      · (intro w hSw; (try dsimp only at hSw); go_simp; (try with_reducible rfl))
      try simp only [Act.put, List.setIfInBounds_toArray, List.set_cons_zero, List.set_cons_succ]
      refine wpAnyH_take (i := 20) (oi := ⟨some 35, _, _, _, _, _⟩) (v := ?_) rfl (by kernel_rfl) (by kernel_rfl) (by kernel_rfl) (fun _ _ _ h => h) (Or.inl ⟨by rfl, ?_⟩) (by assumption) ?_
      rotate_left
      · (intro w hSw; (try dsimp only at hSw); go_simp; (try with_reducible rfl))
      try simp only [Act.put, List.setIfInBounds_toArray, List.set_cons_zero, List.set_cons_succ]
      refine wpAnyH_take (i := 21) (oi := ⟨some 36, _, _, _, _, _⟩) (v := ?_) rfl (by kernel_rfl) (by kernel_rfl) (by kernel_rfl) (fun _ _ _ h => h) (Or.inl ⟨by rfl, ?_⟩) (by assumption) ?_
      rotate_left
      · (intro w hSw; (try dsimp only at hSw); go_simp; (try with_reducible rfl))
      try simp only [Act.put, List.setIfInBounds_toArray, List.set_cons_zero, List.set_cons_succ]
      refine wpAnyH_take (i := 22) (oi := ⟨some 37, _, _, _, _, _⟩) (v := ?_) rfl (by kernel_rfl) (by kernel_rfl) (by kernel_rfl) (fun _ _ _ h => h) (Or.inl ⟨by rfl, ?_⟩) (by assumption) ?_
      rotate_left
      · (intro w hSw; (try dsimp only at hSw); go_simp; (try with_reducible rfl))
      try simp only [Act.put, List.setIfInBounds_toArray, List.set_cons_zero, List.set_cons_succ]
      refine wpAnyH_take (i := 23) (oi := ⟨some 38, _, _, _, _, _⟩) (v := ?_) rfl (by kernel_rfl) (by kernel_rfl) (by kernel_rfl) (fun _ _ _ h => h) (Or.inl ⟨by rfl, ?_⟩) (by assumption) ?_
      rotate_left
      · (intro w hSw; (try dsimp only at hSw); go_simp; (try with_reducible rfl))
      try simp only [Act.put, List.setIfInBounds_toArray, List.set_cons_zero, List.set_cons_succ]
      refine wpAnyH_ready (rs := [24]) (by kernel_rfl) (by simp) ?_
      refine AllReadyH.cons (o := ⟨some 39, _, _, _, _, _⟩) rfl (fun K hK => ?_) AllReadyH.nil
      go_simp
      with_reducible refine (K7.out _ hHeld.2.2.2.2.2.2.2.2.2.2.2.2.out).mono ?_
      rintro e w' ⟨rfl, hb⟩
      go_wp2_with fail
      refine hK.out _ _ ?_ (fun hHeld => ?_)
      · exact ⟨cell_keep' hb hHeld.1, cell_keep' hb hHeld.2.1, cell_keep' hb hHeld.2.2.1, cell_keep' hb hHeld.2.2.2.1, cell_keep' hb hHeld.2.2.2.2.1, cell_keep' hb hHeld.2.2.2.2.2.1, cell_keep' hb hHeld.2.2.2.2.2.2.1, cell_keep' hb hHeld.2.2.2.2.2.2.2.1, cell_keep' hb hHeld.2.2.2.2.2.2.2.2.1, cell_keep' hb hHeld.2.2.2.2.2.2.2.2.2.1, cell_keep' hb hHeld.2.2.2.2.2.2.2.2.2.2.1, cell_keep' hb hHeld.2.2.2.2.2.2.2.2.2.2.2.1, Lib.hid (below_next hHeld.2.2.2.2.2.2.2.2.2.2.2.2.out hb)⟩
      clear hK K
      try simp only [Act.put, List.setIfInBounds_toArray, List.set_cons_zero, List.set_cons_succ]
      clear hb
      refine wpAnyH_take (i := 25) (oi := ⟨some 40, _, _, _, _, _⟩) (v := ?_) rfl (by kernel_rfl) (by kernel_rfl) (by kernel_rfl) (fun _ _ _ h => h) (Or.inl ⟨by rfl, ?_⟩) (by assumption) ?_
      rotate_left
      · (intro w hSw; (try dsimp only at hSw); go_simp; (try with_reducible rfl))
      try simp only [Act.put, List.setIfInBounds_toArray, List.set_cons_zero, List.set_cons_succ]
      refine wpAnyH_take (i := 26) (oi := ⟨some 4, _, _, _, _, _⟩) (v := ?_) rfl (by kernel_rfl) (by kernel_rfl) (by kernel_rfl) (fun _ _ _ h => h) (Or.inl ⟨by rfl, ?_⟩) (by assumption) ?_
      rotate_left
      · (intro w hSw; (try dsimp only at hSw); go_simp; (try with_reducible rfl))
      try simp only [Act.put, List.setIfInBounds_toArray, List.set_cons_zero, List.set_cons_succ]
      refine wpAnyH_done (by kernel_rfl) ?_ _
      have HZ := Lib.hid hHeld.2.2.2.2.2.2.2.2.2.2.2.2.out
      clear hHeld
      go_wp2_with fail
      go_ret
      exact ⟨rfl, below_next HB1.out HZ.out⟩
end Go.Proofs.YtlgfickhkejdjaaGreatDoor
