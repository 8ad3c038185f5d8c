/-
  SyntaxParentheses, walked.
-/
import Derived.Test.YtlgfickhkejdjaaGreatDoorMSyParen
namespace Go.Proofs.YtlgfickhkejdjaaGreatDoor
open Go.RowKit Go.Maps

set_option maxRecDepth 100000 in
set_option maxHeartbeats 20000000 in
theorem law_paren (kind op : Int) (hkind : Tr.I64 kind) (hop : Tr.I64 op) (e0 : Tr.E) (a0 : Value) (e1 : Tr.E) (a1 : Value) (w : World) (hE : SyEnv w) (h0 : BdE e0 ∧ SlE w a0 e0.args) (h1 : BdE e1 ∧ SlE w a1 e1.args) :
    Calls Tryz.prog 7 #[.int .i64 kind, .int .i64 op, exprV e0 a0, exprV e1 a1] w fun r w' => r = .returned (.bool true) ∧ Below w.heap.size w w' := by
  obtain ⟨hbd0, h0⟩ := h0
  have hi0 : Sy.i64E e0 := (Sy.i64E_eq e0).2 ⟨hbd0.int, h0.i64⟩
  obtain ⟨p0, c0, rfl, _⟩ := h0.form
  obtain ⟨N0, hN0⟩ : ∃ q, e0.args.length = q := ⟨_, rfl⟩
  rw [hN0] at h0 ⊢
  obtain ⟨hbd1, h1⟩ := h1
  have hi1 : Sy.i64E e1 := (Sy.i64E_eq e1).2 ⟨hbd1.int, h1.i64⟩
  obtain ⟨p1, c1, rfl, _⟩ := h1.form
  obtain ⟨N1, hN1⟩ : ∃ q, e1.args.length = q := ⟨_, rfl⟩
  rw [hN1] at h1 ⊢
  have hbc := box2_of w #[.int .i64 e0.kind, .int .i64 e0.op, .int .i64 e0.int, .string e0.name, .bool e0.at_, .slice p0 N0 c0] #[.int .i64 e1.kind, .int .i64 e1.op, .int .i64 e1.int, .string e1.name, .bool e1.at_, .slice p1 N1 c1] 24 24
  obtain ⟨w1, hw1⟩ : ∃ q, q = (w.alloc (.cells #[.int .i64 e0.kind, .int .i64 e0.op, .int .i64 e0.int, .string e0.name, .bool e0.at_, .slice p0 N0 c0] 24)).alloc (.cells #[.int .i64 e1.kind, .int .i64 e1.op, .int .i64 e1.int, .string e1.name, .bool e1.at_, .slice p1 N1 c1] 24) := ⟨_, rfl⟩
  rw [← hw1] at hbc
  obtain ⟨hb1, hc1⟩ := hbc
  have HW1 := Lib.hid hw1
  have HB1 := Lib.hid hb1
  have HC := Lib.hid hc1
  have hez := hE.keep hb1
  have hs0 := h0.keep hb1
  have hs1 := h1.keep hb1
  have KA : Hid (∀ W, Below w1.heap.size w1 W → Calls Tryz.prog 11 #[] W fun r w' => r = .returned (.bool true) ∧ Below W.heap.size W w') := fun W hb => awake38_any W (hez.keep hb)
  have KF0 : Hid (∀ W, Below w1.heap.size w1 W → Calls Tryz.prog 12 #[.agg #[.int .i64 e0.kind, .int .i64 e0.op, .int .i64 e0.int, .string e0.name, .bool e0.at_, .slice p0 N0 c0], .int .i64 60] W fun r w' => r = .returned (.bool (Tr.fewE e0 60)) ∧ Below W.heap.size W w') := fun W hb => fewExpr_any e0 _ 60 W hbd0 (hs0.keep hb) (by decide) (by decide)
  have KF1 : Hid (∀ W, Below w1.heap.size w1 W → Calls Tryz.prog 12 #[.agg #[.int .i64 e1.kind, .int .i64 e1.op, .int .i64 e1.int, .string e1.name, .bool e1.at_, .slice p1 N1 c1], .int .i64 60] W fun r w' => r = .returned (.bool (Tr.fewE e1 60)) ∧ Below W.heap.size W w') := fun W hb => fewExpr_any e1 _ 60 W hbd1 (hs1.keep hb) (by decide) (by decide)
  have KV0 : Hid (∀ W, Below w1.heap.size w1 W → Calls Tryz.prog 13 #[.agg #[.int .i64 e0.kind, .int .i64 e0.op, .int .i64 e0.int, .string e0.name, .bool e0.at_, .slice p0 N0 c0]] W fun r w' => r = .returned (.bool (Tr.validE e0)) ∧ Below W.heap.size W w') := fun W hb => validExpr_any _ e0 _ W (Nat.le_refl _) (hez.syn.lex.keep hb) hbd0 (hs0.keep hb)
  have KV1 : Hid (∀ W, Below w1.heap.size w1 W → Calls Tryz.prog 13 #[.agg #[.int .i64 e1.kind, .int .i64 e1.op, .int .i64 e1.int, .string e1.name, .bool e1.at_, .slice p1 N1 c1]] W fun r w' => r = .returned (.bool (Tr.validE e1)) ∧ Below W.heap.size W w') := fun W hb => validExpr_any _ e1 _ W (Nat.le_refl _) (hez.syn.lex.keep hb) hbd1 (hs1.keep hb)
  have HEZ := Lib.hid hez
  have HS0 := Lib.hid hs0
  have HS1 := Lib.hid hs1
  have HN0 := Lib.hid hN0
  have HN1 := Lib.hid hN1
  clear hE h0 h1 hN0 hN1 hw1 hb1 hc1 hez hs0 hs1
  unfold exprV
  cases hq0 : Tr.fewE e0 60
  · rw [hq0] at KF0
    clear hq0
    go_enter Tryz.func7, Tryz.ntmps7
    go_upto_region 1 with fail
    rw [← HW1.out]
    have HR := Lib.hid (Below.refl w1.heap.size w1)
    go_wp2_with fail
    refine (KA.out _ HR.out).mono ?_
    rintro r wy ⟨rfl, hby⟩
    have HR := Lib.hid (below_next HR.out hby)
    clear hby
    have d0_0 := ((HC.out _ HR.out).1 0 _ rfl)
    have d0_1 := ((HC.out _ HR.out).1 1 _ rfl)
    have d0_2 := ((HC.out _ HR.out).1 2 _ rfl)
    have d0_3 := ((HC.out _ HR.out).1 3 _ rfl)
    have d0_4 := ((HC.out _ HR.out).1 4 _ rfl)
    have d0_5 := ((HC.out _ HR.out).1 5 _ rfl)
    go_wp2_with fail
    refine (KF0.out _ HR.out).mono ?_
    rintro r wy ⟨rfl, hby⟩
    have HR := Lib.hid (below_next HR.out hby)
    clear hby d0_0 d0_1 d0_2 d0_3 d0_4 d0_5
    go_wp2_with fail
    go_ret
    exact ⟨rfl, below_next HB1.out HR.out⟩
  · have hz0 := (Sy.expr_small hq0 (by decide) (by decide) hi0).2.2
    rw [hq0] at KF0
    clear hq0
    cases hq1 : Tr.fewE e1 60
    · rw [hq1] at KF1
      clear hq1
      go_enter Tryz.func7, Tryz.ntmps7
      go_upto_region 1 with fail
      rw [← HW1.out]
      have HR := Lib.hid (Below.refl w1.heap.size w1)
      go_wp2_with fail
      refine (KA.out _ HR.out).mono ?_
      rintro r wy ⟨rfl, hby⟩
      have HR := Lib.hid (below_next HR.out hby)
      clear hby
      have d0_0 := ((HC.out _ HR.out).1 0 _ rfl)
      have d0_1 := ((HC.out _ HR.out).1 1 _ rfl)
      have d0_2 := ((HC.out _ HR.out).1 2 _ rfl)
      have d0_3 := ((HC.out _ HR.out).1 3 _ rfl)
      have d0_4 := ((HC.out _ HR.out).1 4 _ rfl)
      have d0_5 := ((HC.out _ HR.out).1 5 _ rfl)
      go_wp2_with fail
      refine (KF0.out _ HR.out).mono ?_
      rintro r wy ⟨rfl, hby⟩
      have HR := Lib.hid (below_next HR.out hby)
      clear hby d0_0 d0_1 d0_2 d0_3 d0_4 d0_5
      have d1_0 := ((HC.out _ HR.out).2 0 _ rfl)
      have d1_1 := ((HC.out _ HR.out).2 1 _ rfl)
      have d1_2 := ((HC.out _ HR.out).2 2 _ rfl)
      have d1_3 := ((HC.out _ HR.out).2 3 _ rfl)
      have d1_4 := ((HC.out _ HR.out).2 4 _ rfl)
      have d1_5 := ((HC.out _ HR.out).2 5 _ rfl)
      go_wp2_with fail
      refine (KF1.out _ HR.out).mono ?_
      rintro r wy ⟨rfl, hby⟩
      have HR := Lib.hid (below_next HR.out hby)
      clear hby d1_0 d1_1 d1_2 d1_3 d1_4 d1_5
      go_wp2_with fail
      go_ret
      exact ⟨rfl, below_next HB1.out HR.out⟩
    · have hz1 := (Sy.expr_small hq1 (by decide) (by decide) hi1).2.2
      rw [hq1] at KF1
      clear hq1 hi0 hi1
      cases hv0 : Tr.validE e0
      · rw [hv0] at KV0
        clear hv0
        go_enter Tryz.func7, Tryz.ntmps7
        go_upto_region 1 with fail
        rw [← HW1.out]
        have HR := Lib.hid (Below.refl w1.heap.size w1)
        go_wp2_with fail
        refine (KA.out _ HR.out).mono ?_
        rintro r wy ⟨rfl, hby⟩
        have HR := Lib.hid (below_next HR.out hby)
        clear hby
        have d0_0 := ((HC.out _ HR.out).1 0 _ rfl)
        have d0_1 := ((HC.out _ HR.out).1 1 _ rfl)
        have d0_2 := ((HC.out _ HR.out).1 2 _ rfl)
        have d0_3 := ((HC.out _ HR.out).1 3 _ rfl)
        have d0_4 := ((HC.out _ HR.out).1 4 _ rfl)
        have d0_5 := ((HC.out _ HR.out).1 5 _ rfl)
        go_wp2_with fail
        refine (KF0.out _ HR.out).mono ?_
        rintro r wy ⟨rfl, hby⟩
        have HR := Lib.hid (below_next HR.out hby)
        clear hby d0_0 d0_1 d0_2 d0_3 d0_4 d0_5
        have d1_0 := ((HC.out _ HR.out).2 0 _ rfl)
        have d1_1 := ((HC.out _ HR.out).2 1 _ rfl)
        have d1_2 := ((HC.out _ HR.out).2 2 _ rfl)
        have d1_3 := ((HC.out _ HR.out).2 3 _ rfl)
        have d1_4 := ((HC.out _ HR.out).2 4 _ rfl)
        have d1_5 := ((HC.out _ HR.out).2 5 _ rfl)
        go_wp2_with fail
        refine (KF1.out _ HR.out).mono ?_
        rintro r wy ⟨rfl, hby⟩
        have HR := Lib.hid (below_next HR.out hby)
        clear hby d1_0 d1_1 d1_2 d1_3 d1_4 d1_5
        have d0_0 := ((HC.out _ HR.out).1 0 _ rfl)
        have d0_1 := ((HC.out _ HR.out).1 1 _ rfl)
        have d0_2 := ((HC.out _ HR.out).1 2 _ rfl)
        have d0_3 := ((HC.out _ HR.out).1 3 _ rfl)
        have d0_4 := ((HC.out _ HR.out).1 4 _ rfl)
        have d0_5 := ((HC.out _ HR.out).1 5 _ rfl)
        go_wp2_with fail
        refine (KV0.out _ HR.out).mono ?_
        rintro r wy ⟨rfl, hby⟩
        have HR := Lib.hid (below_next HR.out hby)
        clear hby d0_0 d0_1 d0_2 d0_3 d0_4 d0_5
        go_wp2_with fail
        go_ret
        exact ⟨rfl, below_next HB1.out HR.out⟩
      · have HV0 := Lib.hid hv0
        rw [hv0] at KV0
        clear hv0
        cases hv1 : Tr.validE e1
        · rw [hv1] at KV1
          clear hv1
          go_enter Tryz.func7, Tryz.ntmps7
          go_upto_region 1 with fail
          rw [← HW1.out]
          have HR := Lib.hid (Below.refl w1.heap.size w1)
          go_wp2_with fail
          refine (KA.out _ HR.out).mono ?_
          rintro r wy ⟨rfl, hby⟩
          have HR := Lib.hid (below_next HR.out hby)
          clear hby
          have d0_0 := ((HC.out _ HR.out).1 0 _ rfl)
          have d0_1 := ((HC.out _ HR.out).1 1 _ rfl)
          have d0_2 := ((HC.out _ HR.out).1 2 _ rfl)
          have d0_3 := ((HC.out _ HR.out).1 3 _ rfl)
          have d0_4 := ((HC.out _ HR.out).1 4 _ rfl)
          have d0_5 := ((HC.out _ HR.out).1 5 _ rfl)
          go_wp2_with fail
          refine (KF0.out _ HR.out).mono ?_
          rintro r wy ⟨rfl, hby⟩
          have HR := Lib.hid (below_next HR.out hby)
          clear hby d0_0 d0_1 d0_2 d0_3 d0_4 d0_5
          have d1_0 := ((HC.out _ HR.out).2 0 _ rfl)
          have d1_1 := ((HC.out _ HR.out).2 1 _ rfl)
          have d1_2 := ((HC.out _ HR.out).2 2 _ rfl)
          have d1_3 := ((HC.out _ HR.out).2 3 _ rfl)
          have d1_4 := ((HC.out _ HR.out).2 4 _ rfl)
          have d1_5 := ((HC.out _ HR.out).2 5 _ rfl)
          go_wp2_with fail
          refine (KF1.out _ HR.out).mono ?_
          rintro r wy ⟨rfl, hby⟩
          have HR := Lib.hid (below_next HR.out hby)
          clear hby d1_0 d1_1 d1_2 d1_3 d1_4 d1_5
          have d0_0 := ((HC.out _ HR.out).1 0 _ rfl)
          have d0_1 := ((HC.out _ HR.out).1 1 _ rfl)
          have d0_2 := ((HC.out _ HR.out).1 2 _ rfl)
          have d0_3 := ((HC.out _ HR.out).1 3 _ rfl)
          have d0_4 := ((HC.out _ HR.out).1 4 _ rfl)
          have d0_5 := ((HC.out _ HR.out).1 5 _ rfl)
          go_wp2_with fail
          refine (KV0.out _ HR.out).mono ?_
          rintro r wy ⟨rfl, hby⟩
          have HR := Lib.hid (below_next HR.out hby)
          clear hby d0_0 d0_1 d0_2 d0_3 d0_4 d0_5
          have d1_0 := ((HC.out _ HR.out).2 0 _ rfl)
          have d1_1 := ((HC.out _ HR.out).2 1 _ rfl)
          have d1_2 := ((HC.out _ HR.out).2 2 _ rfl)
          have d1_3 := ((HC.out _ HR.out).2 3 _ rfl)
          have d1_4 := ((HC.out _ HR.out).2 4 _ rfl)
          have d1_5 := ((HC.out _ HR.out).2 5 _ rfl)
          go_wp2_with fail
          refine (KV1.out _ HR.out).mono ?_
          rintro r wy ⟨rfl, hby⟩
          have HR := Lib.hid (below_next HR.out hby)
          clear hby d1_0 d1_1 d1_2 d1_3 d1_4 d1_5
          go_wp2_with fail
          go_ret
          exact ⟨rfl, below_next HB1.out HR.out⟩
        · have HV1 := Lib.hid hv1
          rw [hv1] at KV1
          clear hv1
          have HB0 := Lib.hid hbd0
          have HB1E := Lib.hid hbd1
          have KI0 : Hid (∀ (rq : Nat) (W : World), Below w1.heap.size w1 W → Calls Tryz.prog 28 #[.agg #[.int .i64 e0.kind, .int .i64 e0.op, .int .i64 e0.int, .string e0.name, .bool e0.at_, .slice p0 N0 c0], .int .i64 rq] W fun r w' => r = .returned (.string (pB rq e0)) ∧ Below W.heap.size W w') := fun rq W hb => lawIn_any e0 p0 N0 c0 rq W (HEZ.out.keep hb) HB0.out HN0.out (HS0.out.keep hb) HV0.out (Nat.le_trans hz0 (by decide))
          have KI1 : Hid (∀ (rq : Nat) (W : World), Below w1.heap.size w1 W → Calls Tryz.prog 28 #[.agg #[.int .i64 e1.kind, .int .i64 e1.op, .int .i64 e1.int, .string e1.name, .bool e1.at_, .slice p1 N1 c1], .int .i64 rq] W fun r w' => r = .returned (.string (pB rq e1)) ∧ Below W.heap.size W w') := fun rq W hb => lawIn_any e1 p1 N1 c1 rq W (HEZ.out.keep hb) HB1E.out HN1.out (HS1.out.keep hb) HV1.out (Nat.le_trans hz1 (by decide))
          have HZ0 := Lib.hid hz0
          have HZ1 := Lib.hid hz1
          clear hbd0 hbd1 hz0 hz1
          by_cases hk8 : kind = 8
          · subst hk8
            obtain ⟨P, hP⟩ : ∃ q, pB 7 e0 = q := ⟨_, rfl⟩
            have hPs : P.size ≤ 100002 := by rw [← hP]; exact par_size 7 e0 HZ0.out
            have KI : Hid (∀ W, Below w1.heap.size w1 W → Calls Tryz.prog 28 #[.agg #[.int .i64 e0.kind, .int .i64 e0.op, .int .i64 e0.int, .string e0.name, .bool e0.at_, .slice p0 N0 c0], .int .i64 7] W fun r w' => r = .returned (.string P) ∧ Below W.heap.size W w') := fun W hb => by rw [← hP]; exact KI0.out 7 W hb
            go_enter Tryz.func7, Tryz.ntmps7
            go_upto_region 1 with fail
            rw [← HW1.out]
            have HR := Lib.hid (Below.refl w1.heap.size w1)
            go_wp2_with fail
            refine (KA.out _ HR.out).mono ?_
            rintro r wy ⟨rfl, hby⟩
            have HR := Lib.hid (below_next HR.out hby)
            clear hby
            have d0_0 := ((HC.out _ HR.out).1 0 _ rfl)
            have d0_1 := ((HC.out _ HR.out).1 1 _ rfl)
            have d0_2 := ((HC.out _ HR.out).1 2 _ rfl)
            have d0_3 := ((HC.out _ HR.out).1 3 _ rfl)
            have d0_4 := ((HC.out _ HR.out).1 4 _ rfl)
            have d0_5 := ((HC.out _ HR.out).1 5 _ rfl)
            go_wp2_with fail
            refine (KF0.out _ HR.out).mono ?_
            rintro r wy ⟨rfl, hby⟩
            have HR := Lib.hid (below_next HR.out hby)
            clear hby d0_0 d0_1 d0_2 d0_3 d0_4 d0_5
            have d1_0 := ((HC.out _ HR.out).2 0 _ rfl)
            have d1_1 := ((HC.out _ HR.out).2 1 _ rfl)
            have d1_2 := ((HC.out _ HR.out).2 2 _ rfl)
            have d1_3 := ((HC.out _ HR.out).2 3 _ rfl)
            have d1_4 := ((HC.out _ HR.out).2 4 _ rfl)
            have d1_5 := ((HC.out _ HR.out).2 5 _ rfl)
            go_wp2_with fail
            refine (KF1.out _ HR.out).mono ?_
            rintro r wy ⟨rfl, hby⟩
            have HR := Lib.hid (below_next HR.out hby)
            clear hby d1_0 d1_1 d1_2 d1_3 d1_4 d1_5
            have d0_0 := ((HC.out _ HR.out).1 0 _ rfl)
            have d0_1 := ((HC.out _ HR.out).1 1 _ rfl)
            have d0_2 := ((HC.out _ HR.out).1 2 _ rfl)
            have d0_3 := ((HC.out _ HR.out).1 3 _ rfl)
            have d0_4 := ((HC.out _ HR.out).1 4 _ rfl)
            have d0_5 := ((HC.out _ HR.out).1 5 _ rfl)
            go_wp2_with fail
            refine (KV0.out _ HR.out).mono ?_
            rintro r wy ⟨rfl, hby⟩
            have HR := Lib.hid (below_next HR.out hby)
            clear hby d0_0 d0_1 d0_2 d0_3 d0_4 d0_5
            have d1_0 := ((HC.out _ HR.out).2 0 _ rfl)
            have d1_1 := ((HC.out _ HR.out).2 1 _ rfl)
            have d1_2 := ((HC.out _ HR.out).2 2 _ rfl)
            have d1_3 := ((HC.out _ HR.out).2 3 _ rfl)
            have d1_4 := ((HC.out _ HR.out).2 4 _ rfl)
            have d1_5 := ((HC.out _ HR.out).2 5 _ rfl)
            go_wp2_with fail
            refine (KV1.out _ HR.out).mono ?_
            rintro r wy ⟨rfl, hby⟩
            have HR := Lib.hid (below_next HR.out hby)
            clear hby d1_0 d1_1 d1_2 d1_3 d1_4 d1_5
            have d0_0 := ((HC.out _ HR.out).1 0 _ rfl)
            have d0_1 := ((HC.out _ HR.out).1 1 _ rfl)
            have d0_2 := ((HC.out _ HR.out).1 2 _ rfl)
            have d0_3 := ((HC.out _ HR.out).1 3 _ rfl)
            have d0_4 := ((HC.out _ HR.out).1 4 _ rfl)
            have d0_5 := ((HC.out _ HR.out).1 5 _ rfl)
            go_upto_region 6 with fail
            clear d0_0 d0_1 d0_2 d0_3 d0_4 d0_5
            obtain ⟨G, hG⟩ : ∃ q, wy.heap.size = q := ⟨_, rfl⟩
            rw [hG]
            have hA := below_box wy (.cells #[.int .i64 e0.kind, .int .i64 e0.op, .int .i64 e0.int, .string e0.name, .bool e0.at_, .slice p0 N0 c0] 24)
            have hA2 := (MapKept.heap_alloc wy (.cells #[.int .i64 e0.kind, .int .i64 e0.op, .int .i64 e0.int, .string e0.name, .bool e0.at_, .slice p0 N0 c0] 24)).1
            have hB := below_box (wy.alloc (.cells #[.int .i64 e0.kind, .int .i64 e0.op, .int .i64 e0.int, .string e0.name, .bool e0.at_, .slice p0 N0 c0] 24)) (.cells #[.int .i64 8, .int .i64 0, .int .i64 0, .string ⟨#[]⟩, .bool false, .slice (some ⟨G, 0, none⟩) 1 1] 24)
            have hB2 := (MapKept.heap_alloc (wy.alloc (.cells #[.int .i64 e0.kind, .int .i64 e0.op, .int .i64 e0.int, .string e0.name, .bool e0.at_, .slice p0 N0 c0] 24)) (.cells #[.int .i64 8, .int .i64 0, .int .i64 0, .string ⟨#[]⟩, .bool false, .slice (some ⟨G, 0, none⟩) 1 1] 24)).1
            rw [World.size_alloc, hG] at hB2
            rw [hG] at hA2
            obtain ⟨w3, hw3⟩ : ∃ q, q = (wy.alloc (.cells #[.int .i64 e0.kind, .int .i64 e0.op, .int .i64 e0.int, .string e0.name, .bool e0.at_, .slice p0 N0 c0] 24)).alloc (.cells #[.int .i64 8, .int .i64 0, .int .i64 0, .string ⟨#[]⟩, .bool false, .slice (some ⟨G, 0, none⟩) 1 1] 24) := ⟨_, rfl⟩
            rw [← hw3] at hB hB2 ⊢
            have hA3 := (hB.block G (lt_of_block hA2)).trans hA2
            have HB3 := Lib.hid (below_next (below_next HR.out hA) hB)
            have hGw : w1.heap.size ≤ G := by rw [← hG]; exact HR.out.size
            have hsl := slE_blk hA3 [(e0, .slice p0 N0 c0)] (by simp) rfl (fun z hz => by
              obtain rfl := List.mem_singleton.1 hz
              exact ⟨HB0.out, HS0.out.keep HB3.out⟩)
            have HSL := Lib.hid hsl
            clear hA hA2 hA3 hB hsl hw3 hG
            have HOB := Lib.hid hB2
            clear hB2 hGw
            have K1 : Hid (∀ W, Below w3.heap.size w3 W → Calls Tryz.prog 15 #[.agg #[.int .i64 8, .int .i64 0, .int .i64 0, .string ⟨#[]⟩, .bool false, .slice (some ⟨G, 0, none⟩) 1 1]] W fun r w' => r = .returned (.string (⟨#[45]⟩ ++ P)) ∧ Below W.heap.size W w') := fun W hb => by
              have h := syExpr_any (.mk 8 0 0 ⟨#[]⟩ false [e0]) (.slice (some ⟨G, 0, none⟩) 1 1) W (HEZ.out.keep (below_next HB3.out hb)) (bdE_mk (by decide) (by decide) (by decide) (by decide)) (HSL.out.keep hb) (Nat.le_trans (one_len (tl_one HZ0.out)) (by decide))
              rw [one_text8 HV0.out, hP] at h
              exact h
            clear hP
            have k1 : ¬ 9223372036854775807 < 1 + P.size := by omega
            go_upto_region 8 with fail
            have o0 := cell_of_blkP HOB.out (j := 0) (u := .int .i64 8) rfl
            have o1 := cell_of_blkP HOB.out (j := 1) (u := .int .i64 0) rfl
            have o2 := cell_of_blkP HOB.out (j := 2) (u := .int .i64 0) rfl
            have o3 := cell_of_blkP HOB.out (j := 3) (u := .string ⟨#[]⟩) rfl
            have o4 := cell_of_blkP HOB.out (j := 4) (u := .bool false) rfl
            have o5 := cell_of_blkP HOB.out (j := 5) (u := .slice (some ⟨G, 0, none⟩) 1 1) rfl
            have d0_0 := ((HC.out _ HB3.out).1 0 _ rfl)
            have d0_1 := ((HC.out _ HB3.out).1 1 _ rfl)
            have d0_2 := ((HC.out _ HB3.out).1 2 _ rfl)
            have d0_3 := ((HC.out _ HB3.out).1 3 _ rfl)
            have d0_4 := ((HC.out _ HB3.out).1 4 _ rfl)
            have d0_5 := ((HC.out _ HB3.out).1 5 _ rfl)
            refine wp_region_held_drew (S := fun W => W.cell? ⟨G + 1, 0, none⟩ = some (.int .i64 8) ∧ W.cell? ⟨G + 1, 1, none⟩ = some (.int .i64 0) ∧ W.cell? ⟨G + 1, 2, none⟩ = some (.int .i64 0) ∧ W.cell? ⟨G + 1, 3, none⟩ = some (.string ⟨#[]⟩) ∧ W.cell? ⟨G + 1, 4, none⟩ = some (.bool false) ∧ W.cell? ⟨G + 1, 5, none⟩ = some (.slice (some ⟨G, 0, none⟩) 1 1) ∧ W.cell? ⟨w.heap.size, 0, none⟩ = some (.int .i64 e0.kind) ∧ W.cell? ⟨w.heap.size, 1, none⟩ = some (.int .i64 e0.op) ∧ W.cell? ⟨w.heap.size, 2, none⟩ = some (.int .i64 e0.int) ∧ W.cell? ⟨w.heap.size, 3, none⟩ = some (.string e0.name) ∧ W.cell? ⟨w.heap.size, 4, none⟩ = some (.bool e0.at_) ∧ W.cell? ⟨w.heap.size, 5, none⟩ = some (.slice p0 N0 c0) ∧ Hid (Below w3.heap.size w3 W)) (by kernel_rfl) ?_ (fun hHeld => ?_)
            · exact ⟨o0, o1, o2, o3, o4, o5, d0_0, d0_1, d0_2, d0_3, d0_4, d0_5, Lib.hid (Below.refl _ _).drew⟩
            clear o0 o1 o2 o3 o4 o5 d0_0 d0_1 d0_2 d0_3 d0_4 d0_5
            refine wpAnyH_take (i := 0) (oi := ⟨some 40, _, _, _, _, _⟩) (v := ?_) rfl (by kernel_rfl) (by kernel_rfl) (by kernel_rfl) (fun _ _ _ h => h) (Or.inl ⟨by rfl, ?_⟩) (by assumption) ?_
            rotate_left
            · (intro w hSw; (try dsimp only at hSw); go_simp; (try with_reducible rfl))
            try simp only [Act.put, List.setIfInBounds_toArray, List.set_cons_zero, List.set_cons_succ]
            refine wpAnyH_take (i := 2) (oi := ⟨some 42, _, _, _, _, _⟩) (v := ?_) rfl (by kernel_rfl) (by kernel_rfl) (by kernel_rfl) (fun _ _ _ h => h) (Or.inl ⟨by rfl, ?_⟩) (by assumption) ?_
            rotate_left
            · (intro w hSw; (try dsimp only at hSw); go_simp; (try with_reducible rfl))
            try simp only [Act.put, List.setIfInBounds_toArray, List.set_cons_zero, List.set_cons_succ]
            refine wpAnyH_ready (rs := [1]) (by kernel_rfl) (by simp) ?_
            refine AllReadyH.cons (o := ⟨some 41, _, _, _, _, _⟩) rfl (fun K hK => ?_) AllReadyH.nil
            go_simp
            with_reducible refine (K1.out _ hHeld.2.2.2.2.2.2.2.2.2.2.2.2.out).mono ?_
            rintro e w' ⟨rfl, hb⟩
            go_wp2_with fail
            refine hK.out _ _ ?_ (fun hHeld => ?_)
            · exact ⟨cell_keep' hb hHeld.1, cell_keep' hb hHeld.2.1, cell_keep' hb hHeld.2.2.1, cell_keep' hb hHeld.2.2.2.1, cell_keep' hb hHeld.2.2.2.2.1, cell_keep' hb hHeld.2.2.2.2.2.1, cell_keep' hb hHeld.2.2.2.2.2.2.1, cell_keep' hb hHeld.2.2.2.2.2.2.2.1, cell_keep' hb hHeld.2.2.2.2.2.2.2.2.1, cell_keep' hb hHeld.2.2.2.2.2.2.2.2.2.1, cell_keep' hb hHeld.2.2.2.2.2.2.2.2.2.2.1, cell_keep' hb hHeld.2.2.2.2.2.2.2.2.2.2.2.1, Lib.hid (below_next hHeld.2.2.2.2.2.2.2.2.2.2.2.2.out hb)⟩
            clear hK K
            try simp only [Act.put, List.setIfInBounds_toArray, List.set_cons_zero, List.set_cons_succ]
            clear hb
            refine wpAnyH_ready (rs := [3]) (by kernel_rfl) (by simp) ?_
            refine AllReadyH.cons (o := ⟨some 43, _, _, _, _, _⟩) rfl (fun K hK => ?_) AllReadyH.nil
            go_simp
            with_reducible refine (KI.out _ (below_next HB3.out hHeld.2.2.2.2.2.2.2.2.2.2.2.2.out)).mono ?_
            rintro e w' ⟨rfl, hb⟩
            go_wp2_with fail
            refine hK.out _ _ ?_ (fun hHeld => ?_)
            · exact ⟨cell_keep' hb hHeld.1, cell_keep' hb hHeld.2.1, cell_keep' hb hHeld.2.2.1, cell_keep' hb hHeld.2.2.2.1, cell_keep' hb hHeld.2.2.2.2.1, cell_keep' hb hHeld.2.2.2.2.2.1, cell_keep' hb hHeld.2.2.2.2.2.2.1, cell_keep' hb hHeld.2.2.2.2.2.2.2.1, cell_keep' hb hHeld.2.2.2.2.2.2.2.2.1, cell_keep' hb hHeld.2.2.2.2.2.2.2.2.2.1, cell_keep' hb hHeld.2.2.2.2.2.2.2.2.2.2.1, cell_keep' hb hHeld.2.2.2.2.2.2.2.2.2.2.2.1, Lib.hid (below_next hHeld.2.2.2.2.2.2.2.2.2.2.2.2.out hb)⟩
            clear hK K
            try simp only [Act.put, List.setIfInBounds_toArray, List.set_cons_zero, List.set_cons_succ]
            clear hb
            refine wpAnyH_take (i := 4) (oi := ⟨some 44, _, _, _, _, _⟩) (v := ?_) rfl (by kernel_rfl) (by kernel_rfl) (by kernel_rfl) (fun _ _ _ h => h) (Or.inl ⟨by rfl, ?_⟩) (by assumption) ?_
            rotate_left
            · (intro w hSw; (try dsimp only at hSw); go_simp; (try with_reducible rfl))
            try simp only [Act.put, List.setIfInBounds_toArray, List.set_cons_zero, List.set_cons_succ]
            refine wpAnyH_take (i := 5) (oi := ⟨some 45, _, _, _, _, _⟩) (v := ?_) rfl (by kernel_rfl) (by kernel_rfl) (by kernel_rfl) (fun _ _ _ h => h) (Or.inl ⟨by rfl, ?_⟩) (by assumption) ?_
            rotate_left
            · (intro w hSw; (try dsimp only at hSw); go_simp; (try with_reducible rfl))
            try simp only [Act.put, List.setIfInBounds_toArray, List.set_cons_zero, List.set_cons_succ]
            refine wpAnyH_take (i := 6) (oi := ⟨some 8, _, _, _, _, _⟩) (v := ?_) rfl (by kernel_rfl) (by kernel_rfl) (by kernel_rfl) (fun _ _ _ h => h) (Or.inl ⟨by rfl, ?_⟩) (by assumption) ?_
            rotate_left
            · (intro w hSw; (try dsimp only at hSw); go_simp; (try with_reducible rfl))
            try simp only [Act.put, List.setIfInBounds_toArray, List.set_cons_zero, List.set_cons_succ]
            refine wpAnyH_done (by kernel_rfl) ?_ _
            have HZ := Lib.hid hHeld.2.2.2.2.2.2.2.2.2.2.2.2.out
            clear hHeld
            go_wp2_with fail
            go_ret
            exact ⟨rfl, below_next HB1.out (below_next HB3.out HZ.out)⟩
          · skip
            by_cases hk6 : kind = 6
            · subst hk6
              obtain ⟨P, hP⟩ : ∃ q, pB 7 e0 = q := ⟨_, rfl⟩
              have hPs : P.size ≤ 100002 := by rw [← hP]; exact par_size 7 e0 HZ0.out
              have KI : Hid (∀ W, Below w1.heap.size w1 W → Calls Tryz.prog 28 #[.agg #[.int .i64 e0.kind, .int .i64 e0.op, .int .i64 e0.int, .string e0.name, .bool e0.at_, .slice p0 N0 c0], .int .i64 7] W fun r w' => r = .returned (.string P) ∧ Below W.heap.size W w') := fun W hb => by rw [← hP]; exact KI0.out 7 W hb
              go_enter Tryz.func7, Tryz.ntmps7
              go_upto_region 1 with fail
              rw [← HW1.out]
              have HR := Lib.hid (Below.refl w1.heap.size w1)
              go_wp2_with fail
              refine (KA.out _ HR.out).mono ?_
              rintro r wy ⟨rfl, hby⟩
              have HR := Lib.hid (below_next HR.out hby)
              clear hby
              have d0_0 := ((HC.out _ HR.out).1 0 _ rfl)
              have d0_1 := ((HC.out _ HR.out).1 1 _ rfl)
              have d0_2 := ((HC.out _ HR.out).1 2 _ rfl)
              have d0_3 := ((HC.out _ HR.out).1 3 _ rfl)
              have d0_4 := ((HC.out _ HR.out).1 4 _ rfl)
              have d0_5 := ((HC.out _ HR.out).1 5 _ rfl)
              go_wp2_with fail
              refine (KF0.out _ HR.out).mono ?_
              rintro r wy ⟨rfl, hby⟩
              have HR := Lib.hid (below_next HR.out hby)
              clear hby d0_0 d0_1 d0_2 d0_3 d0_4 d0_5
              have d1_0 := ((HC.out _ HR.out).2 0 _ rfl)
              have d1_1 := ((HC.out _ HR.out).2 1 _ rfl)
              have d1_2 := ((HC.out _ HR.out).2 2 _ rfl)
              have d1_3 := ((HC.out _ HR.out).2 3 _ rfl)
              have d1_4 := ((HC.out _ HR.out).2 4 _ rfl)
              have d1_5 := ((HC.out _ HR.out).2 5 _ rfl)
              go_wp2_with fail
              refine (KF1.out _ HR.out).mono ?_
              rintro r wy ⟨rfl, hby⟩
              have HR := Lib.hid (below_next HR.out hby)
              clear hby d1_0 d1_1 d1_2 d1_3 d1_4 d1_5
              have d0_0 := ((HC.out _ HR.out).1 0 _ rfl)
              have d0_1 := ((HC.out _ HR.out).1 1 _ rfl)
              have d0_2 := ((HC.out _ HR.out).1 2 _ rfl)
              have d0_3 := ((HC.out _ HR.out).1 3 _ rfl)
              have d0_4 := ((HC.out _ HR.out).1 4 _ rfl)
              have d0_5 := ((HC.out _ HR.out).1 5 _ rfl)
              go_wp2_with fail
              refine (KV0.out _ HR.out).mono ?_
              rintro r wy ⟨rfl, hby⟩
              have HR := Lib.hid (below_next HR.out hby)
              clear hby d0_0 d0_1 d0_2 d0_3 d0_4 d0_5
              have d1_0 := ((HC.out _ HR.out).2 0 _ rfl)
              have d1_1 := ((HC.out _ HR.out).2 1 _ rfl)
              have d1_2 := ((HC.out _ HR.out).2 2 _ rfl)
              have d1_3 := ((HC.out _ HR.out).2 3 _ rfl)
              have d1_4 := ((HC.out _ HR.out).2 4 _ rfl)
              have d1_5 := ((HC.out _ HR.out).2 5 _ rfl)
              go_wp2_with fail
              refine (KV1.out _ HR.out).mono ?_
              rintro r wy ⟨rfl, hby⟩
              have HR := Lib.hid (below_next HR.out hby)
              clear hby d1_0 d1_1 d1_2 d1_3 d1_4 d1_5
              have d0_0 := ((HC.out _ HR.out).1 0 _ rfl)
              have d0_1 := ((HC.out _ HR.out).1 1 _ rfl)
              have d0_2 := ((HC.out _ HR.out).1 2 _ rfl)
              have d0_3 := ((HC.out _ HR.out).1 3 _ rfl)
              have d0_4 := ((HC.out _ HR.out).1 4 _ rfl)
              have d0_5 := ((HC.out _ HR.out).1 5 _ rfl)
              go_upto_region 6 with fail
              clear d0_0 d0_1 d0_2 d0_3 d0_4 d0_5
              obtain ⟨G, hG⟩ : ∃ q, wy.heap.size = q := ⟨_, rfl⟩
              rw [hG]
              have hA := below_box wy (.cells #[.int .i64 e0.kind, .int .i64 e0.op, .int .i64 e0.int, .string e0.name, .bool e0.at_, .slice p0 N0 c0] 24)
              have hA2 := (MapKept.heap_alloc wy (.cells #[.int .i64 e0.kind, .int .i64 e0.op, .int .i64 e0.int, .string e0.name, .bool e0.at_, .slice p0 N0 c0] 24)).1
              have hB := below_box (wy.alloc (.cells #[.int .i64 e0.kind, .int .i64 e0.op, .int .i64 e0.int, .string e0.name, .bool e0.at_, .slice p0 N0 c0] 24)) (.cells #[.int .i64 6, .int .i64 0, .int .i64 0, .string ⟨#[]⟩, .bool false, .slice (some ⟨G, 0, none⟩) 1 1] 24)
              have hB2 := (MapKept.heap_alloc (wy.alloc (.cells #[.int .i64 e0.kind, .int .i64 e0.op, .int .i64 e0.int, .string e0.name, .bool e0.at_, .slice p0 N0 c0] 24)) (.cells #[.int .i64 6, .int .i64 0, .int .i64 0, .string ⟨#[]⟩, .bool false, .slice (some ⟨G, 0, none⟩) 1 1] 24)).1
              rw [World.size_alloc, hG] at hB2
              rw [hG] at hA2
              obtain ⟨w3, hw3⟩ : ∃ q, q = (wy.alloc (.cells #[.int .i64 e0.kind, .int .i64 e0.op, .int .i64 e0.int, .string e0.name, .bool e0.at_, .slice p0 N0 c0] 24)).alloc (.cells #[.int .i64 6, .int .i64 0, .int .i64 0, .string ⟨#[]⟩, .bool false, .slice (some ⟨G, 0, none⟩) 1 1] 24) := ⟨_, rfl⟩
              rw [← hw3] at hB hB2 ⊢
              have hA3 := (hB.block G (lt_of_block hA2)).trans hA2
              have HB3 := Lib.hid (below_next (below_next HR.out hA) hB)
              have hGw : w1.heap.size ≤ G := by rw [← hG]; exact HR.out.size
              have hsl := slE_blk hA3 [(e0, .slice p0 N0 c0)] (by simp) rfl (fun z hz => by
                obtain rfl := List.mem_singleton.1 hz
                exact ⟨HB0.out, HS0.out.keep HB3.out⟩)
              have HSL := Lib.hid hsl
              clear hA hA2 hA3 hB hsl hw3 hG
              have HOB := Lib.hid hB2
              clear hB2 hGw
              have K1 : Hid (∀ W, Below w3.heap.size w3 W → Calls Tryz.prog 15 #[.agg #[.int .i64 6, .int .i64 0, .int .i64 0, .string ⟨#[]⟩, .bool false, .slice (some ⟨G, 0, none⟩) 1 1]] W fun r w' => r = .returned (.string (⟨#[119, 101, 97, 107, 32]⟩ ++ P)) ∧ Below W.heap.size W w') := fun W hb => by
                have h := syExpr_any (.mk 6 0 0 ⟨#[]⟩ false [e0]) (.slice (some ⟨G, 0, none⟩) 1 1) W (HEZ.out.keep (below_next HB3.out hb)) (bdE_mk (by decide) (by decide) (by decide) (by decide)) (HSL.out.keep hb) (Nat.le_trans (one_len (tl_one HZ0.out)) (by decide))
                rw [one_text6 HV0.out, hP] at h
                exact h
              clear hP
              have k1 : ¬ 9223372036854775807 < 5 + P.size := by omega
              go_upto_region 10 with fail
              have o0 := cell_of_blkP HOB.out (j := 0) (u := .int .i64 6) rfl
              have o1 := cell_of_blkP HOB.out (j := 1) (u := .int .i64 0) rfl
              have o2 := cell_of_blkP HOB.out (j := 2) (u := .int .i64 0) rfl
              have o3 := cell_of_blkP HOB.out (j := 3) (u := .string ⟨#[]⟩) rfl
              have o4 := cell_of_blkP HOB.out (j := 4) (u := .bool false) rfl
              have o5 := cell_of_blkP HOB.out (j := 5) (u := .slice (some ⟨G, 0, none⟩) 1 1) rfl
              have d0_0 := ((HC.out _ HB3.out).1 0 _ rfl)
              have d0_1 := ((HC.out _ HB3.out).1 1 _ rfl)
              have d0_2 := ((HC.out _ HB3.out).1 2 _ rfl)
              have d0_3 := ((HC.out _ HB3.out).1 3 _ rfl)
              have d0_4 := ((HC.out _ HB3.out).1 4 _ rfl)
              have d0_5 := ((HC.out _ HB3.out).1 5 _ rfl)
              refine wp_region_held_drew (S := fun W => W.cell? ⟨G + 1, 0, none⟩ = some (.int .i64 6) ∧ W.cell? ⟨G + 1, 1, none⟩ = some (.int .i64 0) ∧ W.cell? ⟨G + 1, 2, none⟩ = some (.int .i64 0) ∧ W.cell? ⟨G + 1, 3, none⟩ = some (.string ⟨#[]⟩) ∧ W.cell? ⟨G + 1, 4, none⟩ = some (.bool false) ∧ W.cell? ⟨G + 1, 5, none⟩ = some (.slice (some ⟨G, 0, none⟩) 1 1) ∧ W.cell? ⟨w.heap.size, 0, none⟩ = some (.int .i64 e0.kind) ∧ W.cell? ⟨w.heap.size, 1, none⟩ = some (.int .i64 e0.op) ∧ W.cell? ⟨w.heap.size, 2, none⟩ = some (.int .i64 e0.int) ∧ W.cell? ⟨w.heap.size, 3, none⟩ = some (.string e0.name) ∧ W.cell? ⟨w.heap.size, 4, none⟩ = some (.bool e0.at_) ∧ W.cell? ⟨w.heap.size, 5, none⟩ = some (.slice p0 N0 c0) ∧ Hid (Below w3.heap.size w3 W)) (by kernel_rfl) ?_ (fun hHeld => ?_)
              · exact ⟨o0, o1, o2, o3, o4, o5, d0_0, d0_1, d0_2, d0_3, d0_4, d0_5, Lib.hid (Below.refl _ _).drew⟩
              clear o0 o1 o2 o3 o4 o5 d0_0 d0_1 d0_2 d0_3 d0_4 d0_5
              refine wpAnyH_take (i := 0) (oi := ⟨some 48, _, _, _, _, _⟩) (v := ?_) rfl (by kernel_rfl) (by kernel_rfl) (by kernel_rfl) (fun _ _ _ h => h) (Or.inl ⟨by rfl, ?_⟩) (by assumption) ?_
              rotate_left
              · (intro w hSw; (try dsimp only at hSw); go_simp; (try with_reducible rfl))
              try simp only [Act.put, List.setIfInBounds_toArray, List.set_cons_zero, List.set_cons_succ]
              refine wpAnyH_take (i := 2) (oi := ⟨some 50, _, _, _, _, _⟩) (v := ?_) rfl (by kernel_rfl) (by kernel_rfl) (by kernel_rfl) (fun _ _ _ h => h) (Or.inl ⟨by rfl, ?_⟩) (by assumption) ?_
              rotate_left
              · (intro w hSw; (try dsimp only at hSw); go_simp; (try with_reducible rfl))
              try simp only [Act.put, List.setIfInBounds_toArray, List.set_cons_zero, List.set_cons_succ]
              refine wpAnyH_ready (rs := [1]) (by kernel_rfl) (by simp) ?_
              refine AllReadyH.cons (o := ⟨some 49, _, _, _, _, _⟩) rfl (fun K hK => ?_) AllReadyH.nil
              go_simp
              with_reducible refine (K1.out _ hHeld.2.2.2.2.2.2.2.2.2.2.2.2.out).mono ?_
              rintro e w' ⟨rfl, hb⟩
              go_wp2_with fail
              refine hK.out _ _ ?_ (fun hHeld => ?_)
              · exact ⟨cell_keep' hb hHeld.1, cell_keep' hb hHeld.2.1, cell_keep' hb hHeld.2.2.1, cell_keep' hb hHeld.2.2.2.1, cell_keep' hb hHeld.2.2.2.2.1, cell_keep' hb hHeld.2.2.2.2.2.1, cell_keep' hb hHeld.2.2.2.2.2.2.1, cell_keep' hb hHeld.2.2.2.2.2.2.2.1, cell_keep' hb hHeld.2.2.2.2.2.2.2.2.1, cell_keep' hb hHeld.2.2.2.2.2.2.2.2.2.1, cell_keep' hb hHeld.2.2.2.2.2.2.2.2.2.2.1, cell_keep' hb hHeld.2.2.2.2.2.2.2.2.2.2.2.1, Lib.hid (below_next hHeld.2.2.2.2.2.2.2.2.2.2.2.2.out hb)⟩
              clear hK K
              try simp only [Act.put, List.setIfInBounds_toArray, List.set_cons_zero, List.set_cons_succ]
              clear hb
              refine wpAnyH_ready (rs := [3]) (by kernel_rfl) (by simp) ?_
              refine AllReadyH.cons (o := ⟨some 51, _, _, _, _, _⟩) rfl (fun K hK => ?_) AllReadyH.nil
              go_simp
              with_reducible refine (KI.out _ (below_next HB3.out hHeld.2.2.2.2.2.2.2.2.2.2.2.2.out)).mono ?_
              rintro e w' ⟨rfl, hb⟩
              go_wp2_with fail
              refine hK.out _ _ ?_ (fun hHeld => ?_)
              · exact ⟨cell_keep' hb hHeld.1, cell_keep' hb hHeld.2.1, cell_keep' hb hHeld.2.2.1, cell_keep' hb hHeld.2.2.2.1, cell_keep' hb hHeld.2.2.2.2.1, cell_keep' hb hHeld.2.2.2.2.2.1, cell_keep' hb hHeld.2.2.2.2.2.2.1, cell_keep' hb hHeld.2.2.2.2.2.2.2.1, cell_keep' hb hHeld.2.2.2.2.2.2.2.2.1, cell_keep' hb hHeld.2.2.2.2.2.2.2.2.2.1, cell_keep' hb hHeld.2.2.2.2.2.2.2.2.2.2.1, cell_keep' hb hHeld.2.2.2.2.2.2.2.2.2.2.2.1, Lib.hid (below_next hHeld.2.2.2.2.2.2.2.2.2.2.2.2.out hb)⟩
              clear hK K
              try simp only [Act.put, List.setIfInBounds_toArray, List.set_cons_zero, List.set_cons_succ]
              clear hb
              refine wpAnyH_take (i := 4) (oi := ⟨some 52, _, _, _, _, _⟩) (v := ?_) rfl (by kernel_rfl) (by kernel_rfl) (by kernel_rfl) (fun _ _ _ h => h) (Or.inl ⟨by rfl, ?_⟩) (by assumption) ?_
              rotate_left
              · (intro w hSw; (try dsimp only at hSw); go_simp; (try with_reducible rfl))
              try simp only [Act.put, List.setIfInBounds_toArray, List.set_cons_zero, List.set_cons_succ]
              refine wpAnyH_take (i := 5) (oi := ⟨some 53, _, _, _, _, _⟩) (v := ?_) rfl (by kernel_rfl) (by kernel_rfl) (by kernel_rfl) (fun _ _ _ h => h) (Or.inl ⟨by rfl, ?_⟩) (by assumption) ?_
              rotate_left
              · (intro w hSw; (try dsimp only at hSw); go_simp; (try with_reducible rfl))
              try simp only [Act.put, List.setIfInBounds_toArray, List.set_cons_zero, List.set_cons_succ]
              refine wpAnyH_take (i := 6) (oi := ⟨some 8, _, _, _, _, _⟩) (v := ?_) rfl (by kernel_rfl) (by kernel_rfl) (by kernel_rfl) (fun _ _ _ h => h) (Or.inl ⟨by rfl, ?_⟩) (by assumption) ?_
              rotate_left
              · (intro w hSw; (try dsimp only at hSw); go_simp; (try with_reducible rfl))
              try simp only [Act.put, List.setIfInBounds_toArray, List.set_cons_zero, List.set_cons_succ]
              refine wpAnyH_done (by kernel_rfl) ?_ _
              have HZ := Lib.hid hHeld.2.2.2.2.2.2.2.2.2.2.2.2.out
              clear hHeld
              go_wp2_with fail
              go_ret
              exact ⟨rfl, below_next HB1.out (below_next HB3.out HZ.out)⟩
            · skip
              by_cases hk7 : kind = 7
              · subst hk7
                obtain ⟨P, hP⟩ : ∃ q, pB 7 e0 = q := ⟨_, rfl⟩
                have hPs : P.size ≤ 100002 := by rw [← hP]; exact par_size 7 e0 HZ0.out
                have KI : Hid (∀ W, Below w1.heap.size w1 W → Calls Tryz.prog 28 #[.agg #[.int .i64 e0.kind, .int .i64 e0.op, .int .i64 e0.int, .string e0.name, .bool e0.at_, .slice p0 N0 c0], .int .i64 7] W fun r w' => r = .returned (.string P) ∧ Below W.heap.size W w') := fun W hb => by rw [← hP]; exact KI0.out 7 W hb
                go_enter Tryz.func7, Tryz.ntmps7
                go_upto_region 1 with fail
                rw [← HW1.out]
                have HR := Lib.hid (Below.refl w1.heap.size w1)
                go_wp2_with fail
                refine (KA.out _ HR.out).mono ?_
                rintro r wy ⟨rfl, hby⟩
                have HR := Lib.hid (below_next HR.out hby)
                clear hby
                have d0_0 := ((HC.out _ HR.out).1 0 _ rfl)
                have d0_1 := ((HC.out _ HR.out).1 1 _ rfl)
                have d0_2 := ((HC.out _ HR.out).1 2 _ rfl)
                have d0_3 := ((HC.out _ HR.out).1 3 _ rfl)
                have d0_4 := ((HC.out _ HR.out).1 4 _ rfl)
                have d0_5 := ((HC.out _ HR.out).1 5 _ rfl)
                go_wp2_with fail
                refine (KF0.out _ HR.out).mono ?_
                rintro r wy ⟨rfl, hby⟩
                have HR := Lib.hid (below_next HR.out hby)
                clear hby d0_0 d0_1 d0_2 d0_3 d0_4 d0_5
                have d1_0 := ((HC.out _ HR.out).2 0 _ rfl)
                have d1_1 := ((HC.out _ HR.out).2 1 _ rfl)
                have d1_2 := ((HC.out _ HR.out).2 2 _ rfl)
                have d1_3 := ((HC.out _ HR.out).2 3 _ rfl)
                have d1_4 := ((HC.out _ HR.out).2 4 _ rfl)
                have d1_5 := ((HC.out _ HR.out).2 5 _ rfl)
                go_wp2_with fail
                refine (KF1.out _ HR.out).mono ?_
                rintro r wy ⟨rfl, hby⟩
                have HR := Lib.hid (below_next HR.out hby)
                clear hby d1_0 d1_1 d1_2 d1_3 d1_4 d1_5
                have d0_0 := ((HC.out _ HR.out).1 0 _ rfl)
                have d0_1 := ((HC.out _ HR.out).1 1 _ rfl)
                have d0_2 := ((HC.out _ HR.out).1 2 _ rfl)
                have d0_3 := ((HC.out _ HR.out).1 3 _ rfl)
                have d0_4 := ((HC.out _ HR.out).1 4 _ rfl)
                have d0_5 := ((HC.out _ HR.out).1 5 _ rfl)
                go_wp2_with fail
                refine (KV0.out _ HR.out).mono ?_
                rintro r wy ⟨rfl, hby⟩
                have HR := Lib.hid (below_next HR.out hby)
                clear hby d0_0 d0_1 d0_2 d0_3 d0_4 d0_5
                have d1_0 := ((HC.out _ HR.out).2 0 _ rfl)
                have d1_1 := ((HC.out _ HR.out).2 1 _ rfl)
                have d1_2 := ((HC.out _ HR.out).2 2 _ rfl)
                have d1_3 := ((HC.out _ HR.out).2 3 _ rfl)
                have d1_4 := ((HC.out _ HR.out).2 4 _ rfl)
                have d1_5 := ((HC.out _ HR.out).2 5 _ rfl)
                go_wp2_with fail
                refine (KV1.out _ HR.out).mono ?_
                rintro r wy ⟨rfl, hby⟩
                have HR := Lib.hid (below_next HR.out hby)
                clear hby d1_0 d1_1 d1_2 d1_3 d1_4 d1_5
                have d0_0 := ((HC.out _ HR.out).1 0 _ rfl)
                have d0_1 := ((HC.out _ HR.out).1 1 _ rfl)
                have d0_2 := ((HC.out _ HR.out).1 2 _ rfl)
                have d0_3 := ((HC.out _ HR.out).1 3 _ rfl)
                have d0_4 := ((HC.out _ HR.out).1 4 _ rfl)
                have d0_5 := ((HC.out _ HR.out).1 5 _ rfl)
                go_upto_region 6 with fail
                clear d0_0 d0_1 d0_2 d0_3 d0_4 d0_5
                obtain ⟨G, hG⟩ : ∃ q, wy.heap.size = q := ⟨_, rfl⟩
                rw [hG]
                have hA := below_box wy (.cells #[.int .i64 e0.kind, .int .i64 e0.op, .int .i64 e0.int, .string e0.name, .bool e0.at_, .slice p0 N0 c0] 24)
                have hA2 := (MapKept.heap_alloc wy (.cells #[.int .i64 e0.kind, .int .i64 e0.op, .int .i64 e0.int, .string e0.name, .bool e0.at_, .slice p0 N0 c0] 24)).1
                have hB := below_box (wy.alloc (.cells #[.int .i64 e0.kind, .int .i64 e0.op, .int .i64 e0.int, .string e0.name, .bool e0.at_, .slice p0 N0 c0] 24)) (.cells #[.int .i64 7, .int .i64 0, .int .i64 0, .string ⟨#[]⟩, .bool false, .slice (some ⟨G, 0, none⟩) 1 1] 24)
                have hB2 := (MapKept.heap_alloc (wy.alloc (.cells #[.int .i64 e0.kind, .int .i64 e0.op, .int .i64 e0.int, .string e0.name, .bool e0.at_, .slice p0 N0 c0] 24)) (.cells #[.int .i64 7, .int .i64 0, .int .i64 0, .string ⟨#[]⟩, .bool false, .slice (some ⟨G, 0, none⟩) 1 1] 24)).1
                rw [World.size_alloc, hG] at hB2
                rw [hG] at hA2
                obtain ⟨w3, hw3⟩ : ∃ q, q = (wy.alloc (.cells #[.int .i64 e0.kind, .int .i64 e0.op, .int .i64 e0.int, .string e0.name, .bool e0.at_, .slice p0 N0 c0] 24)).alloc (.cells #[.int .i64 7, .int .i64 0, .int .i64 0, .string ⟨#[]⟩, .bool false, .slice (some ⟨G, 0, none⟩) 1 1] 24) := ⟨_, rfl⟩
                rw [← hw3] at hB hB2 ⊢
                have hA3 := (hB.block G (lt_of_block hA2)).trans hA2
                have HB3 := Lib.hid (below_next (below_next HR.out hA) hB)
                have hGw : w1.heap.size ≤ G := by rw [← hG]; exact HR.out.size
                have hsl := slE_blk hA3 [(e0, .slice p0 N0 c0)] (by simp) rfl (fun z hz => by
                  obtain rfl := List.mem_singleton.1 hz
                  exact ⟨HB0.out, HS0.out.keep HB3.out⟩)
                have HSL := Lib.hid hsl
                clear hA hA2 hA3 hB hsl hw3 hG
                have HOB := Lib.hid hB2
                clear hB2 hGw
                have K1 : Hid (∀ W, Below w3.heap.size w3 W → Calls Tryz.prog 15 #[.agg #[.int .i64 7, .int .i64 0, .int .i64 0, .string ⟨#[]⟩, .bool false, .slice (some ⟨G, 0, none⟩) 1 1]] W fun r w' => r = .returned (.string (⟨#[103, 101, 116, 32]⟩ ++ P)) ∧ Below W.heap.size W w') := fun W hb => by
                  have h := syExpr_any (.mk 7 0 0 ⟨#[]⟩ false [e0]) (.slice (some ⟨G, 0, none⟩) 1 1) W (HEZ.out.keep (below_next HB3.out hb)) (bdE_mk (by decide) (by decide) (by decide) (by decide)) (HSL.out.keep hb) (Nat.le_trans (one_len (tl_one HZ0.out)) (by decide))
                  rw [one_text7 HV0.out, hP] at h
                  exact h
                clear hP
                have k1 : ¬ 9223372036854775807 < 4 + P.size := by omega
                go_upto_region 12 with fail
                have o0 := cell_of_blkP HOB.out (j := 0) (u := .int .i64 7) rfl
                have o1 := cell_of_blkP HOB.out (j := 1) (u := .int .i64 0) rfl
                have o2 := cell_of_blkP HOB.out (j := 2) (u := .int .i64 0) rfl
                have o3 := cell_of_blkP HOB.out (j := 3) (u := .string ⟨#[]⟩) rfl
                have o4 := cell_of_blkP HOB.out (j := 4) (u := .bool false) rfl
                have o5 := cell_of_blkP HOB.out (j := 5) (u := .slice (some ⟨G, 0, none⟩) 1 1) rfl
                have d0_0 := ((HC.out _ HB3.out).1 0 _ rfl)
                have d0_1 := ((HC.out _ HB3.out).1 1 _ rfl)
                have d0_2 := ((HC.out _ HB3.out).1 2 _ rfl)
                have d0_3 := ((HC.out _ HB3.out).1 3 _ rfl)
                have d0_4 := ((HC.out _ HB3.out).1 4 _ rfl)
                have d0_5 := ((HC.out _ HB3.out).1 5 _ rfl)
                refine wp_region_held_drew (S := fun W => W.cell? ⟨G + 1, 0, none⟩ = some (.int .i64 7) ∧ W.cell? ⟨G + 1, 1, none⟩ = some (.int .i64 0) ∧ W.cell? ⟨G + 1, 2, none⟩ = some (.int .i64 0) ∧ W.cell? ⟨G + 1, 3, none⟩ = some (.string ⟨#[]⟩) ∧ W.cell? ⟨G + 1, 4, none⟩ = some (.bool false) ∧ W.cell? ⟨G + 1, 5, none⟩ = some (.slice (some ⟨G, 0, none⟩) 1 1) ∧ W.cell? ⟨w.heap.size, 0, none⟩ = some (.int .i64 e0.kind) ∧ W.cell? ⟨w.heap.size, 1, none⟩ = some (.int .i64 e0.op) ∧ W.cell? ⟨w.heap.size, 2, none⟩ = some (.int .i64 e0.int) ∧ W.cell? ⟨w.heap.size, 3, none⟩ = some (.string e0.name) ∧ W.cell? ⟨w.heap.size, 4, none⟩ = some (.bool e0.at_) ∧ W.cell? ⟨w.heap.size, 5, none⟩ = some (.slice p0 N0 c0) ∧ Hid (Below w3.heap.size w3 W)) (by kernel_rfl) ?_ (fun hHeld => ?_)
                · exact ⟨o0, o1, o2, o3, o4, o5, d0_0, d0_1, d0_2, d0_3, d0_4, d0_5, Lib.hid (Below.refl _ _).drew⟩
                clear o0 o1 o2 o3 o4 o5 d0_0 d0_1 d0_2 d0_3 d0_4 d0_5
                refine wpAnyH_take (i := 0) (oi := ⟨some 56, _, _, _, _, _⟩) (v := ?_) rfl (by kernel_rfl) (by kernel_rfl) (by kernel_rfl) (fun _ _ _ h => h) (Or.inl ⟨by rfl, ?_⟩) (by assumption) ?_
                rotate_left
                · (intro w hSw; (try dsimp only at hSw); go_simp; (try with_reducible rfl))
                try simp only [Act.put, List.setIfInBounds_toArray, List.set_cons_zero, List.set_cons_succ]
                refine wpAnyH_take (i := 2) (oi := ⟨some 58, _, _, _, _, _⟩) (v := ?_) rfl (by kernel_rfl) (by kernel_rfl) (by kernel_rfl) (fun _ _ _ h => h) (Or.inl ⟨by rfl, ?_⟩) (by assumption) ?_
                rotate_left
                · (intro w hSw; (try dsimp only at hSw); go_simp; (try with_reducible rfl))
                try simp only [Act.put, List.setIfInBounds_toArray, List.set_cons_zero, List.set_cons_succ]
                refine wpAnyH_ready (rs := [1]) (by kernel_rfl) (by simp) ?_
                refine AllReadyH.cons (o := ⟨some 57, _, _, _, _, _⟩) rfl (fun K hK => ?_) AllReadyH.nil
                go_simp
                with_reducible refine (K1.out _ hHeld.2.2.2.2.2.2.2.2.2.2.2.2.out).mono ?_
                rintro e w' ⟨rfl, hb⟩
                go_wp2_with fail
                refine hK.out _ _ ?_ (fun hHeld => ?_)
                · exact ⟨cell_keep' hb hHeld.1, cell_keep' hb hHeld.2.1, cell_keep' hb hHeld.2.2.1, cell_keep' hb hHeld.2.2.2.1, cell_keep' hb hHeld.2.2.2.2.1, cell_keep' hb hHeld.2.2.2.2.2.1, cell_keep' hb hHeld.2.2.2.2.2.2.1, cell_keep' hb hHeld.2.2.2.2.2.2.2.1, cell_keep' hb hHeld.2.2.2.2.2.2.2.2.1, cell_keep' hb hHeld.2.2.2.2.2.2.2.2.2.1, cell_keep' hb hHeld.2.2.2.2.2.2.2.2.2.2.1, cell_keep' hb hHeld.2.2.2.2.2.2.2.2.2.2.2.1, Lib.hid (below_next hHeld.2.2.2.2.2.2.2.2.2.2.2.2.out hb)⟩
                clear hK K
                try simp only [Act.put, List.setIfInBounds_toArray, List.set_cons_zero, List.set_cons_succ]
                clear hb
                refine wpAnyH_ready (rs := [3]) (by kernel_rfl) (by simp) ?_
                refine AllReadyH.cons (o := ⟨some 59, _, _, _, _, _⟩) rfl (fun K hK => ?_) AllReadyH.nil
                go_simp
                with_reducible refine (KI.out _ (below_next HB3.out hHeld.2.2.2.2.2.2.2.2.2.2.2.2.out)).mono ?_
                rintro e w' ⟨rfl, hb⟩
                go_wp2_with fail
                refine hK.out _ _ ?_ (fun hHeld => ?_)
                · exact ⟨cell_keep' hb hHeld.1, cell_keep' hb hHeld.2.1, cell_keep' hb hHeld.2.2.1, cell_keep' hb hHeld.2.2.2.1, cell_keep' hb hHeld.2.2.2.2.1, cell_keep' hb hHeld.2.2.2.2.2.1, cell_keep' hb hHeld.2.2.2.2.2.2.1, cell_keep' hb hHeld.2.2.2.2.2.2.2.1, cell_keep' hb hHeld.2.2.2.2.2.2.2.2.1, cell_keep' hb hHeld.2.2.2.2.2.2.2.2.2.1, cell_keep' hb hHeld.2.2.2.2.2.2.2.2.2.2.1, cell_keep' hb hHeld.2.2.2.2.2.2.2.2.2.2.2.1, Lib.hid (below_next hHeld.2.2.2.2.2.2.2.2.2.2.2.2.out hb)⟩
                clear hK K
                try simp only [Act.put, List.setIfInBounds_toArray, List.set_cons_zero, List.set_cons_succ]
                clear hb
                refine wpAnyH_take (i := 4) (oi := ⟨some 60, _, _, _, _, _⟩) (v := ?_) rfl (by kernel_rfl) (by kernel_rfl) (by kernel_rfl) (fun _ _ _ h => h) (Or.inl ⟨by rfl, ?_⟩) (by assumption) ?_
                rotate_left
                · (intro w hSw; (try dsimp only at hSw); go_simp; (try with_reducible rfl))
                try simp only [Act.put, List.setIfInBounds_toArray, List.set_cons_zero, List.set_cons_succ]
                refine wpAnyH_take (i := 5) (oi := ⟨some 61, _, _, _, _, _⟩) (v := ?_) rfl (by kernel_rfl) (by kernel_rfl) (by kernel_rfl) (fun _ _ _ h => h) (Or.inl ⟨by rfl, ?_⟩) (by assumption) ?_
                rotate_left
                · (intro w hSw; (try dsimp only at hSw); go_simp; (try with_reducible rfl))
                try simp only [Act.put, List.setIfInBounds_toArray, List.set_cons_zero, List.set_cons_succ]
                refine wpAnyH_take (i := 6) (oi := ⟨some 8, _, _, _, _, _⟩) (v := ?_) rfl (by kernel_rfl) (by kernel_rfl) (by kernel_rfl) (fun _ _ _ h => h) (Or.inl ⟨by rfl, ?_⟩) (by assumption) ?_
                rotate_left
                · (intro w hSw; (try dsimp only at hSw); go_simp; (try with_reducible rfl))
                try simp only [Act.put, List.setIfInBounds_toArray, List.set_cons_zero, List.set_cons_succ]
                refine wpAnyH_done (by kernel_rfl) ?_ _
                have HZ := Lib.hid hHeld.2.2.2.2.2.2.2.2.2.2.2.2.out
                clear hHeld
                go_wp2_with fail
                go_ret
                exact ⟨rfl, below_next HB1.out (below_next HB3.out HZ.out)⟩
              · skip
                by_cases hk9 : kind = 9
                · subst hk9
                  obtain ⟨P, hP⟩ : ∃ q, pB 3 e0 = q := ⟨_, rfl⟩
                  have hPs : P.size ≤ 100002 := by rw [← hP]; exact par_size 3 e0 HZ0.out
                  have KI : Hid (∀ W, Below w1.heap.size w1 W → Calls Tryz.prog 28 #[.agg #[.int .i64 e0.kind, .int .i64 e0.op, .int .i64 e0.int, .string e0.name, .bool e0.at_, .slice p0 N0 c0], .int .i64 3] W fun r w' => r = .returned (.string P) ∧ Below W.heap.size W w') := fun W hb => by rw [← hP]; exact KI0.out 3 W hb
                  go_enter Tryz.func7, Tryz.ntmps7
                  go_upto_region 1 with fail
                  rw [← HW1.out]
                  have HR := Lib.hid (Below.refl w1.heap.size w1)
                  go_wp2_with fail
                  refine (KA.out _ HR.out).mono ?_
                  rintro r wy ⟨rfl, hby⟩
                  have HR := Lib.hid (below_next HR.out hby)
                  clear hby
                  have d0_0 := ((HC.out _ HR.out).1 0 _ rfl)
                  have d0_1 := ((HC.out _ HR.out).1 1 _ rfl)
                  have d0_2 := ((HC.out _ HR.out).1 2 _ rfl)
                  have d0_3 := ((HC.out _ HR.out).1 3 _ rfl)
                  have d0_4 := ((HC.out _ HR.out).1 4 _ rfl)
                  have d0_5 := ((HC.out _ HR.out).1 5 _ rfl)
                  go_wp2_with fail
                  refine (KF0.out _ HR.out).mono ?_
                  rintro r wy ⟨rfl, hby⟩
                  have HR := Lib.hid (below_next HR.out hby)
                  clear hby d0_0 d0_1 d0_2 d0_3 d0_4 d0_5
                  have d1_0 := ((HC.out _ HR.out).2 0 _ rfl)
                  have d1_1 := ((HC.out _ HR.out).2 1 _ rfl)
                  have d1_2 := ((HC.out _ HR.out).2 2 _ rfl)
                  have d1_3 := ((HC.out _ HR.out).2 3 _ rfl)
                  have d1_4 := ((HC.out _ HR.out).2 4 _ rfl)
                  have d1_5 := ((HC.out _ HR.out).2 5 _ rfl)
                  go_wp2_with fail
                  refine (KF1.out _ HR.out).mono ?_
                  rintro r wy ⟨rfl, hby⟩
                  have HR := Lib.hid (below_next HR.out hby)
                  clear hby d1_0 d1_1 d1_2 d1_3 d1_4 d1_5
                  have d0_0 := ((HC.out _ HR.out).1 0 _ rfl)
                  have d0_1 := ((HC.out _ HR.out).1 1 _ rfl)
                  have d0_2 := ((HC.out _ HR.out).1 2 _ rfl)
                  have d0_3 := ((HC.out _ HR.out).1 3 _ rfl)
                  have d0_4 := ((HC.out _ HR.out).1 4 _ rfl)
                  have d0_5 := ((HC.out _ HR.out).1 5 _ rfl)
                  go_wp2_with fail
                  refine (KV0.out _ HR.out).mono ?_
                  rintro r wy ⟨rfl, hby⟩
                  have HR := Lib.hid (below_next HR.out hby)
                  clear hby d0_0 d0_1 d0_2 d0_3 d0_4 d0_5
                  have d1_0 := ((HC.out _ HR.out).2 0 _ rfl)
                  have d1_1 := ((HC.out _ HR.out).2 1 _ rfl)
                  have d1_2 := ((HC.out _ HR.out).2 2 _ rfl)
                  have d1_3 := ((HC.out _ HR.out).2 3 _ rfl)
                  have d1_4 := ((HC.out _ HR.out).2 4 _ rfl)
                  have d1_5 := ((HC.out _ HR.out).2 5 _ rfl)
                  go_wp2_with fail
                  refine (KV1.out _ HR.out).mono ?_
                  rintro r wy ⟨rfl, hby⟩
                  have HR := Lib.hid (below_next HR.out hby)
                  clear hby d1_0 d1_1 d1_2 d1_3 d1_4 d1_5
                  have d0_0 := ((HC.out _ HR.out).1 0 _ rfl)
                  have d0_1 := ((HC.out _ HR.out).1 1 _ rfl)
                  have d0_2 := ((HC.out _ HR.out).1 2 _ rfl)
                  have d0_3 := ((HC.out _ HR.out).1 3 _ rfl)
                  have d0_4 := ((HC.out _ HR.out).1 4 _ rfl)
                  have d0_5 := ((HC.out _ HR.out).1 5 _ rfl)
                  go_upto_region 6 with fail
                  clear d0_0 d0_1 d0_2 d0_3 d0_4 d0_5
                  obtain ⟨G, hG⟩ : ∃ q, wy.heap.size = q := ⟨_, rfl⟩
                  rw [hG]
                  have hA := below_box wy (.cells #[.int .i64 e0.kind, .int .i64 e0.op, .int .i64 e0.int, .string e0.name, .bool e0.at_, .slice p0 N0 c0] 24)
                  have hA2 := (MapKept.heap_alloc wy (.cells #[.int .i64 e0.kind, .int .i64 e0.op, .int .i64 e0.int, .string e0.name, .bool e0.at_, .slice p0 N0 c0] 24)).1
                  have hB := below_box (wy.alloc (.cells #[.int .i64 e0.kind, .int .i64 e0.op, .int .i64 e0.int, .string e0.name, .bool e0.at_, .slice p0 N0 c0] 24)) (.cells #[.int .i64 9, .int .i64 0, .int .i64 0, .string ⟨#[]⟩, .bool false, .slice (some ⟨G, 0, none⟩) 1 1] 24)
                  have hB2 := (MapKept.heap_alloc (wy.alloc (.cells #[.int .i64 e0.kind, .int .i64 e0.op, .int .i64 e0.int, .string e0.name, .bool e0.at_, .slice p0 N0 c0] 24)) (.cells #[.int .i64 9, .int .i64 0, .int .i64 0, .string ⟨#[]⟩, .bool false, .slice (some ⟨G, 0, none⟩) 1 1] 24)).1
                  rw [World.size_alloc, hG] at hB2
                  rw [hG] at hA2
                  obtain ⟨w3, hw3⟩ : ∃ q, q = (wy.alloc (.cells #[.int .i64 e0.kind, .int .i64 e0.op, .int .i64 e0.int, .string e0.name, .bool e0.at_, .slice p0 N0 c0] 24)).alloc (.cells #[.int .i64 9, .int .i64 0, .int .i64 0, .string ⟨#[]⟩, .bool false, .slice (some ⟨G, 0, none⟩) 1 1] 24) := ⟨_, rfl⟩
                  rw [← hw3] at hB hB2 ⊢
                  have hA3 := (hB.block G (lt_of_block hA2)).trans hA2
                  have HB3 := Lib.hid (below_next (below_next HR.out hA) hB)
                  have hGw : w1.heap.size ≤ G := by rw [← hG]; exact HR.out.size
                  have hsl := slE_blk hA3 [(e0, .slice p0 N0 c0)] (by simp) rfl (fun z hz => by
                    obtain rfl := List.mem_singleton.1 hz
                    exact ⟨HB0.out, HS0.out.keep HB3.out⟩)
                  have HSL := Lib.hid hsl
                  clear hA hA2 hA3 hB hsl hw3 hG
                  have HOB := Lib.hid hB2
                  clear hB2 hGw
                  have K1 : Hid (∀ W, Below w3.heap.size w3 W → Calls Tryz.prog 15 #[.agg #[.int .i64 9, .int .i64 0, .int .i64 0, .string ⟨#[]⟩, .bool false, .slice (some ⟨G, 0, none⟩) 1 1]] W fun r w' => r = .returned (.string (⟨#[110, 111, 116, 32]⟩ ++ P)) ∧ Below W.heap.size W w') := fun W hb => by
                    have h := syExpr_any (.mk 9 0 0 ⟨#[]⟩ false [e0]) (.slice (some ⟨G, 0, none⟩) 1 1) W (HEZ.out.keep (below_next HB3.out hb)) (bdE_mk (by decide) (by decide) (by decide) (by decide)) (HSL.out.keep hb) (Nat.le_trans (one_len (tl_one HZ0.out)) (by decide))
                    rw [one_text9 HV0.out, hP] at h
                    exact h
                  clear hP
                  have k1 : ¬ 9223372036854775807 < 4 + P.size := by omega
                  go_upto_region 14 with fail
                  have o0 := cell_of_blkP HOB.out (j := 0) (u := .int .i64 9) rfl
                  have o1 := cell_of_blkP HOB.out (j := 1) (u := .int .i64 0) rfl
                  have o2 := cell_of_blkP HOB.out (j := 2) (u := .int .i64 0) rfl
                  have o3 := cell_of_blkP HOB.out (j := 3) (u := .string ⟨#[]⟩) rfl
                  have o4 := cell_of_blkP HOB.out (j := 4) (u := .bool false) rfl
                  have o5 := cell_of_blkP HOB.out (j := 5) (u := .slice (some ⟨G, 0, none⟩) 1 1) rfl
                  have d0_0 := ((HC.out _ HB3.out).1 0 _ rfl)
                  have d0_1 := ((HC.out _ HB3.out).1 1 _ rfl)
                  have d0_2 := ((HC.out _ HB3.out).1 2 _ rfl)
                  have d0_3 := ((HC.out _ HB3.out).1 3 _ rfl)
                  have d0_4 := ((HC.out _ HB3.out).1 4 _ rfl)
                  have d0_5 := ((HC.out _ HB3.out).1 5 _ rfl)
                  refine wp_region_held_drew (S := fun W => W.cell? ⟨G + 1, 0, none⟩ = some (.int .i64 9) ∧ W.cell? ⟨G + 1, 1, none⟩ = some (.int .i64 0) ∧ W.cell? ⟨G + 1, 2, none⟩ = some (.int .i64 0) ∧ W.cell? ⟨G + 1, 3, none⟩ = some (.string ⟨#[]⟩) ∧ W.cell? ⟨G + 1, 4, none⟩ = some (.bool false) ∧ W.cell? ⟨G + 1, 5, none⟩ = some (.slice (some ⟨G, 0, none⟩) 1 1) ∧ W.cell? ⟨w.heap.size, 0, none⟩ = some (.int .i64 e0.kind) ∧ W.cell? ⟨w.heap.size, 1, none⟩ = some (.int .i64 e0.op) ∧ W.cell? ⟨w.heap.size, 2, none⟩ = some (.int .i64 e0.int) ∧ W.cell? ⟨w.heap.size, 3, none⟩ = some (.string e0.name) ∧ W.cell? ⟨w.heap.size, 4, none⟩ = some (.bool e0.at_) ∧ W.cell? ⟨w.heap.size, 5, none⟩ = some (.slice p0 N0 c0) ∧ Hid (Below w3.heap.size w3 W)) (by kernel_rfl) ?_ (fun hHeld => ?_)
                  · exact ⟨o0, o1, o2, o3, o4, o5, d0_0, d0_1, d0_2, d0_3, d0_4, d0_5, Lib.hid (Below.refl _ _).drew⟩
                  clear o0 o1 o2 o3 o4 o5 d0_0 d0_1 d0_2 d0_3 d0_4 d0_5
                  refine wpAnyH_take (i := 0) (oi := ⟨some 64, _, _, _, _, _⟩) (v := ?_) rfl (by kernel_rfl) (by kernel_rfl) (by kernel_rfl) (fun _ _ _ h => h) (Or.inl ⟨by rfl, ?_⟩) (by assumption) ?_
                  rotate_left
                  · (intro w hSw; (try dsimp only at hSw); go_simp; (try with_reducible rfl))
                  try simp only [Act.put, List.setIfInBounds_toArray, List.set_cons_zero, List.set_cons_succ]
                  refine wpAnyH_take (i := 2) (oi := ⟨some 66, _, _, _, _, _⟩) (v := ?_) rfl (by kernel_rfl) (by kernel_rfl) (by kernel_rfl) (fun _ _ _ h => h) (Or.inl ⟨by rfl, ?_⟩) (by assumption) ?_
                  rotate_left
                  · (intro w hSw; (try dsimp only at hSw); go_simp; (try with_reducible rfl))
                  try simp only [Act.put, List.setIfInBounds_toArray, List.set_cons_zero, List.set_cons_succ]
                  refine wpAnyH_ready (rs := [1]) (by kernel_rfl) (by simp) ?_
                  refine AllReadyH.cons (o := ⟨some 65, _, _, _, _, _⟩) rfl (fun K hK => ?_) AllReadyH.nil
                  go_simp
                  with_reducible refine (K1.out _ hHeld.2.2.2.2.2.2.2.2.2.2.2.2.out).mono ?_
                  rintro e w' ⟨rfl, hb⟩
                  go_wp2_with fail
                  refine hK.out _ _ ?_ (fun hHeld => ?_)
                  · exact ⟨cell_keep' hb hHeld.1, cell_keep' hb hHeld.2.1, cell_keep' hb hHeld.2.2.1, cell_keep' hb hHeld.2.2.2.1, cell_keep' hb hHeld.2.2.2.2.1, cell_keep' hb hHeld.2.2.2.2.2.1, cell_keep' hb hHeld.2.2.2.2.2.2.1, cell_keep' hb hHeld.2.2.2.2.2.2.2.1, cell_keep' hb hHeld.2.2.2.2.2.2.2.2.1, cell_keep' hb hHeld.2.2.2.2.2.2.2.2.2.1, cell_keep' hb hHeld.2.2.2.2.2.2.2.2.2.2.1, cell_keep' hb hHeld.2.2.2.2.2.2.2.2.2.2.2.1, Lib.hid (below_next hHeld.2.2.2.2.2.2.2.2.2.2.2.2.out hb)⟩
                  clear hK K
                  try simp only [Act.put, List.setIfInBounds_toArray, List.set_cons_zero, List.set_cons_succ]
                  clear hb
                  refine wpAnyH_ready (rs := [3]) (by kernel_rfl) (by simp) ?_
                  refine AllReadyH.cons (o := ⟨some 67, _, _, _, _, _⟩) rfl (fun K hK => ?_) AllReadyH.nil
                  go_simp
                  with_reducible refine (KI.out _ (below_next HB3.out hHeld.2.2.2.2.2.2.2.2.2.2.2.2.out)).mono ?_
                  rintro e w' ⟨rfl, hb⟩
                  go_wp2_with fail
                  refine hK.out _ _ ?_ (fun hHeld => ?_)
                  · exact ⟨cell_keep' hb hHeld.1, cell_keep' hb hHeld.2.1, cell_keep' hb hHeld.2.2.1, cell_keep' hb hHeld.2.2.2.1, cell_keep' hb hHeld.2.2.2.2.1, cell_keep' hb hHeld.2.2.2.2.2.1, cell_keep' hb hHeld.2.2.2.2.2.2.1, cell_keep' hb hHeld.2.2.2.2.2.2.2.1, cell_keep' hb hHeld.2.2.2.2.2.2.2.2.1, cell_keep' hb hHeld.2.2.2.2.2.2.2.2.2.1, cell_keep' hb hHeld.2.2.2.2.2.2.2.2.2.2.1, cell_keep' hb hHeld.2.2.2.2.2.2.2.2.2.2.2.1, Lib.hid (below_next hHeld.2.2.2.2.2.2.2.2.2.2.2.2.out hb)⟩
                  clear hK K
                  try simp only [Act.put, List.setIfInBounds_toArray, List.set_cons_zero, List.set_cons_succ]
                  clear hb
                  refine wpAnyH_take (i := 4) (oi := ⟨some 68, _, _, _, _, _⟩) (v := ?_) rfl (by kernel_rfl) (by kernel_rfl) (by kernel_rfl) (fun _ _ _ h => h) (Or.inl ⟨by rfl, ?_⟩) (by assumption) ?_
                  rotate_left
                  · (intro w hSw; (try dsimp only at hSw); go_simp; (try with_reducible rfl))
                  try simp only [Act.put, List.setIfInBounds_toArray, List.set_cons_zero, List.set_cons_succ]
                  refine wpAnyH_take (i := 5) (oi := ⟨some 69, _, _, _, _, _⟩) (v := ?_) rfl (by kernel_rfl) (by kernel_rfl) (by kernel_rfl) (fun _ _ _ h => h) (Or.inl ⟨by rfl, ?_⟩) (by assumption) ?_
                  rotate_left
                  · (intro w hSw; (try dsimp only at hSw); go_simp; (try with_reducible rfl))
                  try simp only [Act.put, List.setIfInBounds_toArray, List.set_cons_zero, List.set_cons_succ]
                  refine wpAnyH_take (i := 6) (oi := ⟨some 8, _, _, _, _, _⟩) (v := ?_) rfl (by kernel_rfl) (by kernel_rfl) (by kernel_rfl) (fun _ _ _ h => h) (Or.inl ⟨by rfl, ?_⟩) (by assumption) ?_
                  rotate_left
                  · (intro w hSw; (try dsimp only at hSw); go_simp; (try with_reducible rfl))
                  try simp only [Act.put, List.setIfInBounds_toArray, List.set_cons_zero, List.set_cons_succ]
                  refine wpAnyH_done (by kernel_rfl) ?_ _
                  have HZ := Lib.hid hHeld.2.2.2.2.2.2.2.2.2.2.2.2.out
                  clear hHeld
                  go_wp2_with fail
                  go_ret
                  exact ⟨rfl, below_next HB1.out (below_next HB3.out HZ.out)⟩
                · skip
                  by_cases hk4 : kind = 4
                  · subst hk4
                    obtain ⟨P, hP⟩ : ∃ q, pB 8 e0 = q := ⟨_, rfl⟩
                    have hPs : P.size ≤ 100002 := by rw [← hP]; exact par_size 8 e0 HZ0.out
                    have KI : Hid (∀ W, Below w1.heap.size w1 W → Calls Tryz.prog 28 #[.agg #[.int .i64 e0.kind, .int .i64 e0.op, .int .i64 e0.int, .string e0.name, .bool e0.at_, .slice p0 N0 c0], .int .i64 8] W fun r w' => r = .returned (.string P) ∧ Below W.heap.size W w') := fun W hb => by rw [← hP]; exact KI0.out 8 W hb
                    go_enter Tryz.func7, Tryz.ntmps7
                    go_upto_region 1 with fail
                    rw [← HW1.out]
                    have HR := Lib.hid (Below.refl w1.heap.size w1)
                    go_wp2_with fail
                    refine (KA.out _ HR.out).mono ?_
                    rintro r wy ⟨rfl, hby⟩
                    have HR := Lib.hid (below_next HR.out hby)
                    clear hby
                    have d0_0 := ((HC.out _ HR.out).1 0 _ rfl)
                    have d0_1 := ((HC.out _ HR.out).1 1 _ rfl)
                    have d0_2 := ((HC.out _ HR.out).1 2 _ rfl)
                    have d0_3 := ((HC.out _ HR.out).1 3 _ rfl)
                    have d0_4 := ((HC.out _ HR.out).1 4 _ rfl)
                    have d0_5 := ((HC.out _ HR.out).1 5 _ rfl)
                    go_wp2_with fail
                    refine (KF0.out _ HR.out).mono ?_
                    rintro r wy ⟨rfl, hby⟩
                    have HR := Lib.hid (below_next HR.out hby)
                    clear hby d0_0 d0_1 d0_2 d0_3 d0_4 d0_5
                    have d1_0 := ((HC.out _ HR.out).2 0 _ rfl)
                    have d1_1 := ((HC.out _ HR.out).2 1 _ rfl)
                    have d1_2 := ((HC.out _ HR.out).2 2 _ rfl)
                    have d1_3 := ((HC.out _ HR.out).2 3 _ rfl)
                    have d1_4 := ((HC.out _ HR.out).2 4 _ rfl)
                    have d1_5 := ((HC.out _ HR.out).2 5 _ rfl)
                    go_wp2_with fail
                    refine (KF1.out _ HR.out).mono ?_
                    rintro r wy ⟨rfl, hby⟩
                    have HR := Lib.hid (below_next HR.out hby)
                    clear hby d1_0 d1_1 d1_2 d1_3 d1_4 d1_5
                    have d0_0 := ((HC.out _ HR.out).1 0 _ rfl)
                    have d0_1 := ((HC.out _ HR.out).1 1 _ rfl)
                    have d0_2 := ((HC.out _ HR.out).1 2 _ rfl)
                    have d0_3 := ((HC.out _ HR.out).1 3 _ rfl)
                    have d0_4 := ((HC.out _ HR.out).1 4 _ rfl)
                    have d0_5 := ((HC.out _ HR.out).1 5 _ rfl)
                    go_wp2_with fail
                    refine (KV0.out _ HR.out).mono ?_
                    rintro r wy ⟨rfl, hby⟩
                    have HR := Lib.hid (below_next HR.out hby)
                    clear hby d0_0 d0_1 d0_2 d0_3 d0_4 d0_5
                    have d1_0 := ((HC.out _ HR.out).2 0 _ rfl)
                    have d1_1 := ((HC.out _ HR.out).2 1 _ rfl)
                    have d1_2 := ((HC.out _ HR.out).2 2 _ rfl)
                    have d1_3 := ((HC.out _ HR.out).2 3 _ rfl)
                    have d1_4 := ((HC.out _ HR.out).2 4 _ rfl)
                    have d1_5 := ((HC.out _ HR.out).2 5 _ rfl)
                    go_wp2_with fail
                    refine (KV1.out _ HR.out).mono ?_
                    rintro r wy ⟨rfl, hby⟩
                    have HR := Lib.hid (below_next HR.out hby)
                    clear hby d1_0 d1_1 d1_2 d1_3 d1_4 d1_5
                    have d0_0 := ((HC.out _ HR.out).1 0 _ rfl)
                    have d0_1 := ((HC.out _ HR.out).1 1 _ rfl)
                    have d0_2 := ((HC.out _ HR.out).1 2 _ rfl)
                    have d0_3 := ((HC.out _ HR.out).1 3 _ rfl)
                    have d0_4 := ((HC.out _ HR.out).1 4 _ rfl)
                    have d0_5 := ((HC.out _ HR.out).1 5 _ rfl)
                    go_upto_region 6 with fail
                    clear d0_0 d0_1 d0_2 d0_3 d0_4 d0_5
                    obtain ⟨G, hG⟩ : ∃ q, wy.heap.size = q := ⟨_, rfl⟩
                    rw [hG]
                    have hA := below_box wy (.cells #[.int .i64 e0.kind, .int .i64 e0.op, .int .i64 e0.int, .string e0.name, .bool e0.at_, .slice p0 N0 c0] 24)
                    have hA2 := (MapKept.heap_alloc wy (.cells #[.int .i64 e0.kind, .int .i64 e0.op, .int .i64 e0.int, .string e0.name, .bool e0.at_, .slice p0 N0 c0] 24)).1
                    have hB := below_box (wy.alloc (.cells #[.int .i64 e0.kind, .int .i64 e0.op, .int .i64 e0.int, .string e0.name, .bool e0.at_, .slice p0 N0 c0] 24)) (.cells #[.int .i64 4, .int .i64 0, .int .i64 0, .string ⟨#[]⟩, .bool false, .slice (some ⟨G, 0, none⟩) 1 1] 24)
                    have hB2 := (MapKept.heap_alloc (wy.alloc (.cells #[.int .i64 e0.kind, .int .i64 e0.op, .int .i64 e0.int, .string e0.name, .bool e0.at_, .slice p0 N0 c0] 24)) (.cells #[.int .i64 4, .int .i64 0, .int .i64 0, .string ⟨#[]⟩, .bool false, .slice (some ⟨G, 0, none⟩) 1 1] 24)).1
                    rw [World.size_alloc, hG] at hB2
                    rw [hG] at hA2
                    obtain ⟨w3, hw3⟩ : ∃ q, q = (wy.alloc (.cells #[.int .i64 e0.kind, .int .i64 e0.op, .int .i64 e0.int, .string e0.name, .bool e0.at_, .slice p0 N0 c0] 24)).alloc (.cells #[.int .i64 4, .int .i64 0, .int .i64 0, .string ⟨#[]⟩, .bool false, .slice (some ⟨G, 0, none⟩) 1 1] 24) := ⟨_, rfl⟩
                    rw [← hw3] at hB hB2 ⊢
                    have hA3 := (hB.block G (lt_of_block hA2)).trans hA2
                    have HB3 := Lib.hid (below_next (below_next HR.out hA) hB)
                    have hGw : w1.heap.size ≤ G := by rw [← hG]; exact HR.out.size
                    have hsl := slE_blk hA3 [(e0, .slice p0 N0 c0)] (by simp) rfl (fun z hz => by
                      obtain rfl := List.mem_singleton.1 hz
                      exact ⟨HB0.out, HS0.out.keep HB3.out⟩)
                    have HSL := Lib.hid hsl
                    have hA4 := (grown_setCell w3 (G + 1) 3 (.string ⟨#[102]⟩)).block G (lt_of_block hA3) (by simp)
                    have hA5 := hA4.trans hA3
                    have hf3 := blk_free hB2 3
                    clear hA hA2 hA3 hB hsl hw3 hG
                    have o0 := cell_of_blkP hB2 (j := 0) (u := .int .i64 4) rfl
                    have o1 := cell_of_blkP hB2 (j := 1) (u := .int .i64 0) rfl
                    have o2 := cell_of_blkP hB2 (j := 2) (u := .int .i64 0) rfl
                    have o3 := cell_of_blkP hB2 (j := 3) (u := .string ⟨#[]⟩) rfl
                    have o4 := cell_of_blkP hB2 (j := 4) (u := .bool false) rfl
                    have o5 := cell_of_blkP hB2 (j := 5) (u := .slice (some ⟨G, 0, none⟩) 1 1) rfl
                    go_upto_region 17 with fail
                    clear o0 o1 o2 o3 o4 o5 hf3 hA4
                    have HB4 := Lib.hid (HB3.out.grown (grown_setCell w3 (G + 1) 3 (.string ⟨#[102]⟩)) HB3.out.size (fun k hk => by cases hk; omega))
                    have hO4 := heap_set (j := 3) (.string ⟨#[102]⟩) hB2
                    obtain ⟨w4, hw4⟩ : ∃ q, q = w3.setCell ⟨G + 1, 3, none⟩ (.string ⟨#[102]⟩) := ⟨_, rfl⟩
                    rw [← hw4] at HB4 hO4 hA5 ⊢
                    have hO4 : w4.heap[G + 1]? = some (.cells #[.int .i64 4, .int .i64 0, .int .i64 0, .string ⟨#[102]⟩, .bool false, .slice (some ⟨G, 0, none⟩) 1 1] 24 (0, 0)) := hO4
                    have HOB := Lib.hid hO4
                    have hsl := slE_blk hA5 [(e0, .slice p0 N0 c0)] (by simp) rfl (fun z hz => by
                      obtain rfl := List.mem_singleton.1 hz
                      exact ⟨HB0.out, HS0.out.keep HB4.out⟩)
                    have HSL := Lib.hid hsl
                    clear hB2 hO4 hA5 hw4 hsl hGw HB3
                    have K1 : Hid (∀ W, Below w4.heap.size w4 W → Calls Tryz.prog 15 #[.agg #[.int .i64 4, .int .i64 0, .int .i64 0, .string ⟨#[102]⟩, .bool false, .slice (some ⟨G, 0, none⟩) 1 1]] W fun r w' => r = .returned (.string (P ++ ⟨#[46, 102]⟩)) ∧ Below W.heap.size W w') := fun W hb => by
                      have h := syExpr_any (.mk 4 0 0 ⟨#[102]⟩ false [e0]) (.slice (some ⟨G, 0, none⟩) 1 1) W (HEZ.out.keep (below_next HB4.out hb)) (bdE_mk (by decide) (by decide) (by decide) (by decide)) (HSL.out.keep hb) (Nat.le_trans (one_len (tl_one HZ0.out)) (by decide))
                      rw [one_text4 HV0.out, hP] at h
                      exact h
                    clear hP
                    have k1 : ¬ 9223372036854775807 < P.size + 2 := by omega
                    have o0 := cell_of_blkP HOB.out (j := 0) (u := .int .i64 4) rfl
                    have o1 := cell_of_blkP HOB.out (j := 1) (u := .int .i64 0) rfl
                    have o2 := cell_of_blkP HOB.out (j := 2) (u := .int .i64 0) rfl
                    have o3 := cell_of_blkP HOB.out (j := 3) (u := .string ⟨#[102]⟩) rfl
                    have o4 := cell_of_blkP HOB.out (j := 4) (u := .bool false) rfl
                    have o5 := cell_of_blkP HOB.out (j := 5) (u := .slice (some ⟨G, 0, none⟩) 1 1) rfl
                    have d0_0 := ((HC.out _ HB4.out).1 0 _ rfl)
                    have d0_1 := ((HC.out _ HB4.out).1 1 _ rfl)
                    have d0_2 := ((HC.out _ HB4.out).1 2 _ rfl)
                    have d0_3 := ((HC.out _ HB4.out).1 3 _ rfl)
                    have d0_4 := ((HC.out _ HB4.out).1 4 _ rfl)
                    have d0_5 := ((HC.out _ HB4.out).1 5 _ rfl)
                    refine wp_region_held_drew (S := fun W => W.cell? ⟨G + 1, 0, none⟩ = some (.int .i64 4) ∧ W.cell? ⟨G + 1, 1, none⟩ = some (.int .i64 0) ∧ W.cell? ⟨G + 1, 2, none⟩ = some (.int .i64 0) ∧ W.cell? ⟨G + 1, 3, none⟩ = some (.string ⟨#[102]⟩) ∧ W.cell? ⟨G + 1, 4, none⟩ = some (.bool false) ∧ W.cell? ⟨G + 1, 5, none⟩ = some (.slice (some ⟨G, 0, none⟩) 1 1) ∧ W.cell? ⟨w.heap.size, 0, none⟩ = some (.int .i64 e0.kind) ∧ W.cell? ⟨w.heap.size, 1, none⟩ = some (.int .i64 e0.op) ∧ W.cell? ⟨w.heap.size, 2, none⟩ = some (.int .i64 e0.int) ∧ W.cell? ⟨w.heap.size, 3, none⟩ = some (.string e0.name) ∧ W.cell? ⟨w.heap.size, 4, none⟩ = some (.bool e0.at_) ∧ W.cell? ⟨w.heap.size, 5, none⟩ = some (.slice p0 N0 c0) ∧ Hid (Below w4.heap.size w4 W)) (by kernel_rfl) ?_ (fun hHeld => ?_)
                    · exact ⟨o0, o1, o2, o3, o4, o5, d0_0, d0_1, d0_2, d0_3, d0_4, d0_5, Lib.hid (Below.refl _ _).drew⟩
                    clear o0 o1 o2 o3 o4 o5 d0_0 d0_1 d0_2 d0_3 d0_4 d0_5
                    refine wpAnyH_take (i := 0) (oi := ⟨some 73, _, _, _, _, _⟩) (v := ?_) rfl (by kernel_rfl) (by kernel_rfl) (by kernel_rfl) (fun _ _ _ h => h) (Or.inl ⟨by rfl, ?_⟩) (by assumption) ?_
                    rotate_left
                    · (intro w hSw; (try dsimp only at hSw); go_simp; (try with_reducible rfl))
                    try simp only [Act.put, List.setIfInBounds_toArray, List.set_cons_zero, List.set_cons_succ]
                    refine wpAnyH_take (i := 2) (oi := ⟨some 75, _, _, _, _, _⟩) (v := ?_) rfl (by kernel_rfl) (by kernel_rfl) (by kernel_rfl) (fun _ _ _ h => h) (Or.inl ⟨by rfl, ?_⟩) (by assumption) ?_
                    rotate_left
                    · (intro w hSw; (try dsimp only at hSw); go_simp; (try with_reducible rfl))
                    try simp only [Act.put, List.setIfInBounds_toArray, List.set_cons_zero, List.set_cons_succ]
                    refine wpAnyH_ready (rs := [1]) (by kernel_rfl) (by simp) ?_
                    refine AllReadyH.cons (o := ⟨some 74, _, _, _, _, _⟩) rfl (fun K hK => ?_) AllReadyH.nil
                    go_simp
                    with_reducible refine (K1.out _ hHeld.2.2.2.2.2.2.2.2.2.2.2.2.out).mono ?_
                    rintro e w' ⟨rfl, hb⟩
                    go_wp2_with fail
                    refine hK.out _ _ ?_ (fun hHeld => ?_)
                    · exact ⟨cell_keep' hb hHeld.1, cell_keep' hb hHeld.2.1, cell_keep' hb hHeld.2.2.1, cell_keep' hb hHeld.2.2.2.1, cell_keep' hb hHeld.2.2.2.2.1, cell_keep' hb hHeld.2.2.2.2.2.1, cell_keep' hb hHeld.2.2.2.2.2.2.1, cell_keep' hb hHeld.2.2.2.2.2.2.2.1, cell_keep' hb hHeld.2.2.2.2.2.2.2.2.1, cell_keep' hb hHeld.2.2.2.2.2.2.2.2.2.1, cell_keep' hb hHeld.2.2.2.2.2.2.2.2.2.2.1, cell_keep' hb hHeld.2.2.2.2.2.2.2.2.2.2.2.1, Lib.hid (below_next hHeld.2.2.2.2.2.2.2.2.2.2.2.2.out hb)⟩
                    clear hK K
                    try simp only [Act.put, List.setIfInBounds_toArray, List.set_cons_zero, List.set_cons_succ]
                    clear hb
                    refine wpAnyH_ready (rs := [3]) (by kernel_rfl) (by simp) ?_
                    refine AllReadyH.cons (o := ⟨some 76, _, _, _, _, _⟩) rfl (fun K hK => ?_) AllReadyH.nil
                    go_simp
                    with_reducible refine (KI.out _ (below_next HB4.out hHeld.2.2.2.2.2.2.2.2.2.2.2.2.out)).mono ?_
                    rintro e w' ⟨rfl, hb⟩
                    go_wp2_with fail
                    refine hK.out _ _ ?_ (fun hHeld => ?_)
                    · exact ⟨cell_keep' hb hHeld.1, cell_keep' hb hHeld.2.1, cell_keep' hb hHeld.2.2.1, cell_keep' hb hHeld.2.2.2.1, cell_keep' hb hHeld.2.2.2.2.1, cell_keep' hb hHeld.2.2.2.2.2.1, cell_keep' hb hHeld.2.2.2.2.2.2.1, cell_keep' hb hHeld.2.2.2.2.2.2.2.1, cell_keep' hb hHeld.2.2.2.2.2.2.2.2.1, cell_keep' hb hHeld.2.2.2.2.2.2.2.2.2.1, cell_keep' hb hHeld.2.2.2.2.2.2.2.2.2.2.1, cell_keep' hb hHeld.2.2.2.2.2.2.2.2.2.2.2.1, Lib.hid (below_next hHeld.2.2.2.2.2.2.2.2.2.2.2.2.out hb)⟩
                    clear hK K
                    try simp only [Act.put, List.setIfInBounds_toArray, List.set_cons_zero, List.set_cons_succ]
                    clear hb
                    refine wpAnyH_take (i := 4) (oi := ⟨some 77, _, _, _, _, _⟩) (v := ?_) rfl (by kernel_rfl) (by kernel_rfl) (by kernel_rfl) (fun _ _ _ h => h) (Or.inl ⟨by rfl, ?_⟩) (by assumption) ?_
                    rotate_left
                    · (intro w hSw; (try dsimp only at hSw); go_simp; (try with_reducible rfl))
                    try simp only [Act.put, List.setIfInBounds_toArray, List.set_cons_zero, List.set_cons_succ]
                    refine wpAnyH_take (i := 5) (oi := ⟨some 78, _, _, _, _, _⟩) (v := ?_) rfl (by kernel_rfl) (by kernel_rfl) (by kernel_rfl) (fun _ _ _ h => h) (Or.inl ⟨by rfl, ?_⟩) (by assumption) ?_
                    rotate_left
                    · (intro w hSw; (try dsimp only at hSw); go_simp; (try with_reducible rfl))
                    try simp only [Act.put, List.setIfInBounds_toArray, List.set_cons_zero, List.set_cons_succ]
                    refine wpAnyH_take (i := 6) (oi := ⟨some 8, _, _, _, _, _⟩) (v := ?_) rfl (by kernel_rfl) (by kernel_rfl) (by kernel_rfl) (fun _ _ _ h => h) (Or.inl ⟨by rfl, ?_⟩) (by assumption) ?_
                    rotate_left
                    · (intro w hSw; (try dsimp only at hSw); go_simp; (try with_reducible rfl))
                    try simp only [Act.put, List.setIfInBounds_toArray, List.set_cons_zero, List.set_cons_succ]
                    refine wpAnyH_done (by kernel_rfl) ?_ _
                    have HZ := Lib.hid hHeld.2.2.2.2.2.2.2.2.2.2.2.2.out
                    clear hHeld
                    go_wp2_with fail
                    go_ret
                    exact ⟨rfl, below_next HB1.out (below_next HB4.out HZ.out)⟩
                  · skip
                    by_cases hk5 : kind = 5
                    · subst hk5
                      obtain ⟨P, hP⟩ : ∃ q, pB 7 e1 = q := ⟨_, rfl⟩
                      have hPs : P.size ≤ 100002 := by rw [← hP]; exact par_size 7 e1 HZ1.out
                      obtain ⟨T, hT⟩ : ∃ q : ByteArray, ⟨(Sy.text e0).toArray⟩ = q := ⟨_, rfl⟩
                      have hTs : T.size ≤ 100000 := by rw [← hT]; exact HZ0.out
                      have KI : Hid (∀ W, Below w1.heap.size w1 W → Calls Tryz.prog 28 #[.agg #[.int .i64 e1.kind, .int .i64 e1.op, .int .i64 e1.int, .string e1.name, .bool e1.at_, .slice p1 N1 c1], .int .i64 7] W fun r w' => r = .returned (.string P) ∧ Below W.heap.size W w') := fun W hb => by rw [← hP]; exact KI1.out 7 W hb
                      have KT : Hid (∀ W, Below w1.heap.size w1 W → Calls Tryz.prog 15 #[.agg #[.int .i64 e0.kind, .int .i64 e0.op, .int .i64 e0.int, .string e0.name, .bool e0.at_, .slice p0 N0 c0]] W fun r w' => r = .returned (.string T) ∧ Below W.heap.size W w') := fun W hb => by
                        have h := syExpr_any e0 (.slice p0 N0 c0) W (HEZ.out.keep hb) HB0.out (HS0.out.keep hb) (Nat.le_trans HZ0.out (by decide))
                        rw [exprText_valid HV0.out, hT] at h
                        exact h
                      have K1 : Hid (∀ W g, Below w1.heap.size w1 W → SlE W (.slice (some ⟨g, 0, none⟩) 2 2) [e0, e1] → Calls Tryz.prog 15 #[.agg #[.int .i64 5, .int .i64 0, .int .i64 0, .string ⟨#[67]⟩, .bool true, .slice (some ⟨g, 0, none⟩) 2 2]] W fun r w' => r = .returned (.string (⟨#[110, 101, 119, 32, 67, 40]⟩ ++ T ++ ⟨#[41, 32, 97, 116, 32]⟩ ++ P)) ∧ Below W.heap.size W w') := fun W g hb hsl => by
                        have h := syExpr_any (.mk 5 0 0 ⟨#[67]⟩ true [e0, e1]) (.slice (some ⟨g, 0, none⟩) 2 2) W (HEZ.out.keep hb) (bdE_mk (by decide) (by decide) (by decide) (by decide)) hsl (Nat.le_trans (one_len (tl_two HZ0.out HZ1.out)) (by decide))
                        rw [new_text HV0.out HV1.out, hP, hT] at h
                        exact h
                      clear hP hT
                      go_enter Tryz.func7, Tryz.ntmps7
                      go_upto_region 1 with fail
                      rw [← HW1.out]
                      have HR := Lib.hid (Below.refl w1.heap.size w1)
                      go_wp2_with fail
                      refine (KA.out _ HR.out).mono ?_
                      rintro r wy ⟨rfl, hby⟩
                      have HR := Lib.hid (below_next HR.out hby)
                      clear hby
                      have d0_0 := ((HC.out _ HR.out).1 0 _ rfl)
                      have d0_1 := ((HC.out _ HR.out).1 1 _ rfl)
                      have d0_2 := ((HC.out _ HR.out).1 2 _ rfl)
                      have d0_3 := ((HC.out _ HR.out).1 3 _ rfl)
                      have d0_4 := ((HC.out _ HR.out).1 4 _ rfl)
                      have d0_5 := ((HC.out _ HR.out).1 5 _ rfl)
                      go_wp2_with fail
                      refine (KF0.out _ HR.out).mono ?_
                      rintro r wy ⟨rfl, hby⟩
                      have HR := Lib.hid (below_next HR.out hby)
                      clear hby d0_0 d0_1 d0_2 d0_3 d0_4 d0_5
                      have d1_0 := ((HC.out _ HR.out).2 0 _ rfl)
                      have d1_1 := ((HC.out _ HR.out).2 1 _ rfl)
                      have d1_2 := ((HC.out _ HR.out).2 2 _ rfl)
                      have d1_3 := ((HC.out _ HR.out).2 3 _ rfl)
                      have d1_4 := ((HC.out _ HR.out).2 4 _ rfl)
                      have d1_5 := ((HC.out _ HR.out).2 5 _ rfl)
                      go_wp2_with fail
                      refine (KF1.out _ HR.out).mono ?_
                      rintro r wy ⟨rfl, hby⟩
                      have HR := Lib.hid (below_next HR.out hby)
                      clear hby d1_0 d1_1 d1_2 d1_3 d1_4 d1_5
                      have d0_0 := ((HC.out _ HR.out).1 0 _ rfl)
                      have d0_1 := ((HC.out _ HR.out).1 1 _ rfl)
                      have d0_2 := ((HC.out _ HR.out).1 2 _ rfl)
                      have d0_3 := ((HC.out _ HR.out).1 3 _ rfl)
                      have d0_4 := ((HC.out _ HR.out).1 4 _ rfl)
                      have d0_5 := ((HC.out _ HR.out).1 5 _ rfl)
                      go_wp2_with fail
                      refine (KV0.out _ HR.out).mono ?_
                      rintro r wy ⟨rfl, hby⟩
                      have HR := Lib.hid (below_next HR.out hby)
                      clear hby d0_0 d0_1 d0_2 d0_3 d0_4 d0_5
                      have d1_0 := ((HC.out _ HR.out).2 0 _ rfl)
                      have d1_1 := ((HC.out _ HR.out).2 1 _ rfl)
                      have d1_2 := ((HC.out _ HR.out).2 2 _ rfl)
                      have d1_3 := ((HC.out _ HR.out).2 3 _ rfl)
                      have d1_4 := ((HC.out _ HR.out).2 4 _ rfl)
                      have d1_5 := ((HC.out _ HR.out).2 5 _ rfl)
                      go_wp2_with fail
                      refine (KV1.out _ HR.out).mono ?_
                      rintro r wy ⟨rfl, hby⟩
                      have HR := Lib.hid (below_next HR.out hby)
                      clear hby d1_0 d1_1 d1_2 d1_3 d1_4 d1_5
                      have d0_0 := ((HC.out _ HR.out).1 0 _ rfl)
                      have d0_1 := ((HC.out _ HR.out).1 1 _ rfl)
                      have d0_2 := ((HC.out _ HR.out).1 2 _ rfl)
                      have d0_3 := ((HC.out _ HR.out).1 3 _ rfl)
                      have d0_4 := ((HC.out _ HR.out).1 4 _ rfl)
                      have d0_5 := ((HC.out _ HR.out).1 5 _ rfl)
                      go_upto_region 6 with fail
                      clear d0_0 d0_1 d0_2 d0_3 d0_4 d0_5
                      obtain ⟨G, hG⟩ : ∃ q, wy.heap.size = q := ⟨_, rfl⟩
                      rw [hG]
                      have hA := below_box wy (.cells #[.int .i64 e0.kind, .int .i64 e0.op, .int .i64 e0.int, .string e0.name, .bool e0.at_, .slice p0 N0 c0] 24)
                      have hA2 := (MapKept.heap_alloc wy (.cells #[.int .i64 e0.kind, .int .i64 e0.op, .int .i64 e0.int, .string e0.name, .bool e0.at_, .slice p0 N0 c0] 24)).1
                      have hB := below_box (wy.alloc (.cells #[.int .i64 e0.kind, .int .i64 e0.op, .int .i64 e0.int, .string e0.name, .bool e0.at_, .slice p0 N0 c0] 24)) (.cells #[.int .i64 5, .int .i64 0, .int .i64 0, .string ⟨#[]⟩, .bool false, .slice (some ⟨G, 0, none⟩) 1 1] 24)
                      have hB2 := (MapKept.heap_alloc (wy.alloc (.cells #[.int .i64 e0.kind, .int .i64 e0.op, .int .i64 e0.int, .string e0.name, .bool e0.at_, .slice p0 N0 c0] 24)) (.cells #[.int .i64 5, .int .i64 0, .int .i64 0, .string ⟨#[]⟩, .bool false, .slice (some ⟨G, 0, none⟩) 1 1] 24)).1
                      rw [World.size_alloc, hG] at hB2
                      rw [hG] at hA2
                      obtain ⟨w3, hw3⟩ : ∃ q, q = (wy.alloc (.cells #[.int .i64 e0.kind, .int .i64 e0.op, .int .i64 e0.int, .string e0.name, .bool e0.at_, .slice p0 N0 c0] 24)).alloc (.cells #[.int .i64 5, .int .i64 0, .int .i64 0, .string ⟨#[]⟩, .bool false, .slice (some ⟨G, 0, none⟩) 1 1] 24) := ⟨_, rfl⟩
                      rw [← hw3] at hB hB2 ⊢
                      have hA3 := (hB.block G (lt_of_block hA2)).trans hA2
                      have HB3 := Lib.hid (below_next (below_next HR.out hA) hB)
                      have hGw : w1.heap.size ≤ G := by rw [← hG]; exact HR.out.size
                      have hsl := slE_blk hA3 [(e0, .slice p0 N0 c0)] (by simp) rfl (fun z hz => by
                        obtain rfl := List.mem_singleton.1 hz
                        exact ⟨HB0.out, HS0.out.keep HB3.out⟩)
                      have HSL := Lib.hid hsl
                      clear hA hA2 hA3 hB hsl hw3 hG
                      clear hB2 hGw
                      have k1 : ¬ 9223372036854775807 < 6 + T.size := by omega
                      have k2 : ¬ 9223372036854775807 < 6 + T.size + 5 := by omega
                      have k3 : ¬ 9223372036854775807 < 6 + T.size + 5 + P.size := by omega
                      go_upto_region 19 with fail
                      have d0_0 := ((HC.out _ HB3.out).1 0 _ rfl)
                      have d0_1 := ((HC.out _ HB3.out).1 1 _ rfl)
                      have d0_2 := ((HC.out _ HB3.out).1 2 _ rfl)
                      have d0_3 := ((HC.out _ HB3.out).1 3 _ rfl)
                      have d0_4 := ((HC.out _ HB3.out).1 4 _ rfl)
                      have d0_5 := ((HC.out _ HB3.out).1 5 _ rfl)
                      have d1_0 := ((HC.out _ HB3.out).2 0 _ rfl)
                      have d1_1 := ((HC.out _ HB3.out).2 1 _ rfl)
                      have d1_2 := ((HC.out _ HB3.out).2 2 _ rfl)
                      have d1_3 := ((HC.out _ HB3.out).2 3 _ rfl)
                      have d1_4 := ((HC.out _ HB3.out).2 4 _ rfl)
                      have d1_5 := ((HC.out _ HB3.out).2 5 _ rfl)
                      refine wp_region_held_drew (S := fun W => W.cell? ⟨w.heap.size, 0, none⟩ = some (.int .i64 e0.kind) ∧ W.cell? ⟨w.heap.size, 1, none⟩ = some (.int .i64 e0.op) ∧ W.cell? ⟨w.heap.size, 2, none⟩ = some (.int .i64 e0.int) ∧ W.cell? ⟨w.heap.size, 3, none⟩ = some (.string e0.name) ∧ W.cell? ⟨w.heap.size, 4, none⟩ = some (.bool e0.at_) ∧ W.cell? ⟨w.heap.size, 5, none⟩ = some (.slice p0 N0 c0) ∧ W.cell? ⟨w.heap.size + 1, 0, none⟩ = some (.int .i64 e1.kind) ∧ W.cell? ⟨w.heap.size + 1, 1, none⟩ = some (.int .i64 e1.op) ∧ W.cell? ⟨w.heap.size + 1, 2, none⟩ = some (.int .i64 e1.int) ∧ W.cell? ⟨w.heap.size + 1, 3, none⟩ = some (.string e1.name) ∧ W.cell? ⟨w.heap.size + 1, 4, none⟩ = some (.bool e1.at_) ∧ W.cell? ⟨w.heap.size + 1, 5, none⟩ = some (.slice p1 N1 c1) ∧ Hid (Below w3.heap.size w3 W)) (by kernel_rfl) ?_ (fun hHeld => ?_)
                      · exact ⟨d0_0, d0_1, d0_2, d0_3, d0_4, d0_5, d1_0, d1_1, d1_2, d1_3, d1_4, d1_5, Lib.hid (Below.refl _ _).drew⟩
                      clear d0_0 d0_1 d0_2 d0_3 d0_4 d0_5 d1_0 d1_1 d1_2 d1_3 d1_4 d1_5
                      refine wpAnyH_take (i := 0) (oi := ⟨some 81, _, _, _, _, _⟩) (v := ?_) rfl (by kernel_rfl) (by kernel_rfl) (by kernel_rfl) (fun _ _ _ h => h) (Or.inl ⟨by rfl, ?_⟩) (by assumption) ?_
                      rotate_left
                      · (intro w hSw; (try dsimp only at hSw); go_simp; (try with_reducible rfl))
                      try simp only [Act.put, List.setIfInBounds_toArray, List.set_cons_zero, List.set_cons_succ]
                      refine wpAnyH_take (i := 1) (oi := ⟨some 82, _, _, _, _, _⟩) (v := ?_) rfl (by kernel_rfl) (by kernel_rfl) (by kernel_rfl) (fun _ _ _ h => h) (Or.inl ⟨by rfl, ?_⟩) (by assumption) ?_
                      rotate_left
                      · (intro w hSw; (try dsimp only at hSw); go_simp; (try with_reducible rfl))
                      try simp only [Act.put, List.setIfInBounds_toArray, List.set_cons_zero, List.set_cons_succ]
                      refine wpAnyH_take (i := 2) (oi := ⟨some 83, _, _, _, _, _⟩) (v := ?_) rfl (by kernel_rfl) (by kernel_rfl) (by kernel_rfl) (fun _ _ _ h => h) (Or.inl ⟨by rfl, ?_⟩) (by assumption) ?_
                      rotate_left
                      · (intro w hSw; (try dsimp only at hSw); go_simp; (try with_reducible rfl))
                      try simp only [Act.put, List.setIfInBounds_toArray, List.set_cons_zero, List.set_cons_succ]
                      refine wpAnyH_take (i := 6) (oi := ⟨some 87, _, _, _, _, _⟩) (v := ?_) rfl (by kernel_rfl) (by kernel_rfl) (by kernel_rfl) (fun _ _ _ h => h) (Or.inl ⟨by rfl, ?_⟩) (by assumption) ?_
                      rotate_left
                      · (intro w hSw; (try dsimp only at hSw); go_simp; (try with_reducible rfl))
                      try simp only [Act.put, List.setIfInBounds_toArray, List.set_cons_zero, List.set_cons_succ]
                      refine wpAnyH_take (i := 10) (oi := ⟨some 91, _, _, _, _, _⟩) (v := ?_) rfl (by kernel_rfl) (by kernel_rfl) (by kernel_rfl) (fun _ _ _ h => h) (Or.inl ⟨by rfl, ?_⟩) (by assumption) ?_
                      rotate_left
                      · (intro w hSw; (try dsimp only at hSw); go_simp; (try with_reducible rfl))
                      try simp only [Act.put, List.setIfInBounds_toArray, List.set_cons_zero, List.set_cons_succ]
                      refine wpAnyH_ready (rs := [3]) (by kernel_rfl) (by simp) ?_
                      refine AllReadyH.cons (o := ⟨some 84, _, _, _, _, _⟩) rfl (fun K hK => ?_) AllReadyH.nil
                      go_simp
                      refine hK.out _ _ ?_ (fun hHeld => ?_)
                      · exact ⟨cell_keep' (below_box _ _) hHeld.1, cell_keep' (below_box _ _) hHeld.2.1, cell_keep' (below_box _ _) hHeld.2.2.1, cell_keep' (below_box _ _) hHeld.2.2.2.1, cell_keep' (below_box _ _) hHeld.2.2.2.2.1, cell_keep' (below_box _ _) hHeld.2.2.2.2.2.1, cell_keep' (below_box _ _) hHeld.2.2.2.2.2.2.1, cell_keep' (below_box _ _) hHeld.2.2.2.2.2.2.2.1, cell_keep' (below_box _ _) hHeld.2.2.2.2.2.2.2.2.1, cell_keep' (below_box _ _) hHeld.2.2.2.2.2.2.2.2.2.1, cell_keep' (below_box _ _) hHeld.2.2.2.2.2.2.2.2.2.2.1, cell_keep' (below_box _ _) hHeld.2.2.2.2.2.2.2.2.2.2.2.1, Lib.hid (below_next hHeld.2.2.2.2.2.2.2.2.2.2.2.2.out (below_box _ _))⟩
                      clear hK K
                      try simp only [Act.put, List.setIfInBounds_toArray, List.set_cons_zero, List.set_cons_succ]
                      have hsl0 := slE_blk (new_at (w := w3) (o := .cells #[.int .i64 e0.kind, .int .i64 e0.op, .int .i64 e0.int, .string e0.name, .bool e0.at_, .slice p0 N0 c0, .int .i64 e1.kind, .int .i64 e1.op, .int .i64 e1.int, .string e1.name, .bool e1.at_, .slice p1 N1 c1] 24) rfl) [(e0, .slice p0 N0 c0), (e1, .slice p1 N1 c1)] (by simp) rfl (fun z hz => by
                        simp only [List.mem_cons, List.not_mem_nil, or_false] at hz
                        rcases hz with rfl | rfl
                        · exact ⟨HB0.out, HS0.out.keep (below_next HB3.out (below_box _ _))⟩
                        · exact ⟨HB1E.out, HS1.out.keep (below_next HB3.out (below_box _ _))⟩)
                      have hsl : SlE _ (.slice (some ⟨w3.heap.size, 0, none⟩) 2 2) [e0, e1] := hsl0.keep ((Below.refl _ _).drew)
                      clear hsl0
                      refine wpAnyH_take (i := 4) (oi := ⟨some 85, _, _, _, _, _⟩) (v := ?_) rfl (by kernel_rfl) (by kernel_rfl) (by kernel_rfl) (fun _ _ _ h => h) (Or.inl ⟨by rfl, ?_⟩) (by assumption) ?_
                      rotate_left
                      · (intro w hSw; (try dsimp only at hSw); go_simp; (try with_reducible rfl))
                      try simp only [Act.put, List.setIfInBounds_toArray, List.set_cons_zero, List.set_cons_succ]
                      refine wpAnyH_ready (rs := [5]) (by kernel_rfl) (by simp) ?_
                      refine AllReadyH.cons (o := ⟨some 86, _, _, _, _, _⟩) rfl (fun K hK => ?_) AllReadyH.nil
                      go_simp
                      with_reducible refine (K1.out _ _ (below_next HB3.out hHeld.2.2.2.2.2.2.2.2.2.2.2.2.out) hsl).mono ?_
                      rintro e w' ⟨rfl, hb⟩
                      go_wp2_with fail
                      refine hK.out _ _ ?_ (fun hHeld => ?_)
                      · exact ⟨cell_keep' hb hHeld.1, cell_keep' hb hHeld.2.1, cell_keep' hb hHeld.2.2.1, cell_keep' hb hHeld.2.2.2.1, cell_keep' hb hHeld.2.2.2.2.1, cell_keep' hb hHeld.2.2.2.2.2.1, cell_keep' hb hHeld.2.2.2.2.2.2.1, cell_keep' hb hHeld.2.2.2.2.2.2.2.1, cell_keep' hb hHeld.2.2.2.2.2.2.2.2.1, cell_keep' hb hHeld.2.2.2.2.2.2.2.2.2.1, cell_keep' hb hHeld.2.2.2.2.2.2.2.2.2.2.1, cell_keep' hb hHeld.2.2.2.2.2.2.2.2.2.2.2.1, Lib.hid (below_next hHeld.2.2.2.2.2.2.2.2.2.2.2.2.out hb)⟩
                      clear hK K
                      try simp only [Act.put, List.setIfInBounds_toArray, List.set_cons_zero, List.set_cons_succ]
                      clear hb
                      refine wpAnyH_ready (rs := [7]) (by kernel_rfl) (by simp) ?_
                      refine AllReadyH.cons (o := ⟨some 88, _, _, _, _, _⟩) rfl (fun K hK => ?_) AllReadyH.nil
                      go_simp
                      with_reducible refine (KT.out _ (below_next HB3.out hHeld.2.2.2.2.2.2.2.2.2.2.2.2.out)).mono ?_
                      rintro e w' ⟨rfl, hb⟩
                      go_wp2_with fail
                      refine hK.out _ _ ?_ (fun hHeld => ?_)
                      · exact ⟨cell_keep' hb hHeld.1, cell_keep' hb hHeld.2.1, cell_keep' hb hHeld.2.2.1, cell_keep' hb hHeld.2.2.2.1, cell_keep' hb hHeld.2.2.2.2.1, cell_keep' hb hHeld.2.2.2.2.2.1, cell_keep' hb hHeld.2.2.2.2.2.2.1, cell_keep' hb hHeld.2.2.2.2.2.2.2.1, cell_keep' hb hHeld.2.2.2.2.2.2.2.2.1, cell_keep' hb hHeld.2.2.2.2.2.2.2.2.2.1, cell_keep' hb hHeld.2.2.2.2.2.2.2.2.2.2.1, cell_keep' hb hHeld.2.2.2.2.2.2.2.2.2.2.2.1, Lib.hid (below_next hHeld.2.2.2.2.2.2.2.2.2.2.2.2.out hb)⟩
                      clear hK K
                      try simp only [Act.put, List.setIfInBounds_toArray, List.set_cons_zero, List.set_cons_succ]
                      clear hb
                      refine wpAnyH_take (i := 8) (oi := ⟨some 89, _, _, _, _, _⟩) (v := ?_) rfl (by kernel_rfl) (by kernel_rfl) (by kernel_rfl) (fun _ _ _ h => h) (Or.inl ⟨by rfl, ?_⟩) (by assumption) ?_
                      rotate_left
                      · (intro w hSw; (try dsimp only at hSw); go_simp; (try with_reducible rfl))
                      try simp only [Act.put, List.setIfInBounds_toArray, List.set_cons_zero, List.set_cons_succ]
                      refine wpAnyH_take (i := 9) (oi := ⟨some 90, _, _, _, _, _⟩) (v := ?_) rfl (by kernel_rfl) (by kernel_rfl) (by kernel_rfl) (fun _ _ _ h => h) (Or.inl ⟨by rfl, ?_⟩) (by assumption) ?_
                      rotate_left
                      · (intro w hSw; (try dsimp only at hSw); go_simp; (try with_reducible rfl))
                      try simp only [Act.put, List.setIfInBounds_toArray, List.set_cons_zero, List.set_cons_succ]
                      refine wpAnyH_ready (rs := [11]) (by kernel_rfl) (by simp) ?_
                      refine AllReadyH.cons (o := ⟨some 92, _, _, _, _, _⟩) rfl (fun K hK => ?_) AllReadyH.nil
                      go_simp
                      with_reducible refine (KI.out _ (below_next HB3.out hHeld.2.2.2.2.2.2.2.2.2.2.2.2.out)).mono ?_
                      rintro e w' ⟨rfl, hb⟩
                      go_wp2_with fail
                      refine hK.out _ _ ?_ (fun hHeld => ?_)
                      · exact ⟨cell_keep' hb hHeld.1, cell_keep' hb hHeld.2.1, cell_keep' hb hHeld.2.2.1, cell_keep' hb hHeld.2.2.2.1, cell_keep' hb hHeld.2.2.2.2.1, cell_keep' hb hHeld.2.2.2.2.2.1, cell_keep' hb hHeld.2.2.2.2.2.2.1, cell_keep' hb hHeld.2.2.2.2.2.2.2.1, cell_keep' hb hHeld.2.2.2.2.2.2.2.2.1, cell_keep' hb hHeld.2.2.2.2.2.2.2.2.2.1, cell_keep' hb hHeld.2.2.2.2.2.2.2.2.2.2.1, cell_keep' hb hHeld.2.2.2.2.2.2.2.2.2.2.2.1, Lib.hid (below_next hHeld.2.2.2.2.2.2.2.2.2.2.2.2.out hb)⟩
                      clear hK K
                      try simp only [Act.put, List.setIfInBounds_toArray, List.set_cons_zero, List.set_cons_succ]
                      clear hb
                      refine wpAnyH_take (i := 12) (oi := ⟨some 93, _, _, _, _, _⟩) (v := ?_) rfl (by kernel_rfl) (by kernel_rfl) (by kernel_rfl) (fun _ _ _ h => h) (Or.inl ⟨by rfl, ?_⟩) (by assumption) ?_
                      rotate_left
                      · (intro w hSw; (try dsimp only at hSw); go_simp; (try with_reducible rfl))
                      try simp only [Act.put, List.setIfInBounds_toArray, List.set_cons_zero, List.set_cons_succ]
                      refine wpAnyH_take (i := 13) (oi := ⟨some 94, _, _, _, _, _⟩) (v := ?_) rfl (by kernel_rfl) (by kernel_rfl) (by kernel_rfl) (fun _ _ _ h => h) (Or.inl ⟨by rfl, ?_⟩) (by assumption) ?_
                      rotate_left
                      · (intro w hSw; (try dsimp only at hSw); go_simp; (try with_reducible rfl))
                      try simp only [Act.put, List.setIfInBounds_toArray, List.set_cons_zero, List.set_cons_succ]
                      refine wpAnyH_take (i := 14) (oi := ⟨some 8, _, _, _, _, _⟩) (v := ?_) rfl (by kernel_rfl) (by kernel_rfl) (by kernel_rfl) (fun _ _ _ h => h) (Or.inl ⟨by rfl, ?_⟩) (by assumption) ?_
                      rotate_left
                      · (intro w hSw; (try dsimp only at hSw); go_simp; (try with_reducible rfl))
                      try simp only [Act.put, List.setIfInBounds_toArray, List.set_cons_zero, List.set_cons_succ]
                      refine wpAnyH_done (by kernel_rfl) ?_ _
                      have HZ := Lib.hid hHeld.2.2.2.2.2.2.2.2.2.2.2.2.out
                      clear hHeld
                      go_wp2_with fail
                      go_ret
                      exact ⟨rfl, below_next HB1.out (below_next HB3.out HZ.out)⟩
                    · skip
                      have n8 : (kind == 8) = false := beq_eq_false_iff_ne.2 hk8
                      have n6 : (kind == 6) = false := beq_eq_false_iff_ne.2 hk6
                      have n7 : (kind == 7) = false := beq_eq_false_iff_ne.2 hk7
                      have n9 : (kind == 9) = false := beq_eq_false_iff_ne.2 hk9
                      have n4 : (kind == 4) = false := beq_eq_false_iff_ne.2 hk4
                      have n5 : (kind == 5) = false := beq_eq_false_iff_ne.2 hk5
                      by_cases ho0 : op < 0
                      · go_enter Tryz.func7, Tryz.ntmps7
                        go_upto_region 1 with fail
                        rw [← HW1.out]
                        have HR := Lib.hid (Below.refl w1.heap.size w1)
                        go_wp2_with fail
                        refine (KA.out _ HR.out).mono ?_
                        rintro r wy ⟨rfl, hby⟩
                        have HR := Lib.hid (below_next HR.out hby)
                        clear hby
                        have d0_0 := ((HC.out _ HR.out).1 0 _ rfl)
                        have d0_1 := ((HC.out _ HR.out).1 1 _ rfl)
                        have d0_2 := ((HC.out _ HR.out).1 2 _ rfl)
                        have d0_3 := ((HC.out _ HR.out).1 3 _ rfl)
                        have d0_4 := ((HC.out _ HR.out).1 4 _ rfl)
                        have d0_5 := ((HC.out _ HR.out).1 5 _ rfl)
                        go_wp2_with fail
                        refine (KF0.out _ HR.out).mono ?_
                        rintro r wy ⟨rfl, hby⟩
                        have HR := Lib.hid (below_next HR.out hby)
                        clear hby d0_0 d0_1 d0_2 d0_3 d0_4 d0_5
                        have d1_0 := ((HC.out _ HR.out).2 0 _ rfl)
                        have d1_1 := ((HC.out _ HR.out).2 1 _ rfl)
                        have d1_2 := ((HC.out _ HR.out).2 2 _ rfl)
                        have d1_3 := ((HC.out _ HR.out).2 3 _ rfl)
                        have d1_4 := ((HC.out _ HR.out).2 4 _ rfl)
                        have d1_5 := ((HC.out _ HR.out).2 5 _ rfl)
                        go_wp2_with fail
                        refine (KF1.out _ HR.out).mono ?_
                        rintro r wy ⟨rfl, hby⟩
                        have HR := Lib.hid (below_next HR.out hby)
                        clear hby d1_0 d1_1 d1_2 d1_3 d1_4 d1_5
                        have d0_0 := ((HC.out _ HR.out).1 0 _ rfl)
                        have d0_1 := ((HC.out _ HR.out).1 1 _ rfl)
                        have d0_2 := ((HC.out _ HR.out).1 2 _ rfl)
                        have d0_3 := ((HC.out _ HR.out).1 3 _ rfl)
                        have d0_4 := ((HC.out _ HR.out).1 4 _ rfl)
                        have d0_5 := ((HC.out _ HR.out).1 5 _ rfl)
                        go_wp2_with fail
                        refine (KV0.out _ HR.out).mono ?_
                        rintro r wy ⟨rfl, hby⟩
                        have HR := Lib.hid (below_next HR.out hby)
                        clear hby d0_0 d0_1 d0_2 d0_3 d0_4 d0_5
                        have d1_0 := ((HC.out _ HR.out).2 0 _ rfl)
                        have d1_1 := ((HC.out _ HR.out).2 1 _ rfl)
                        have d1_2 := ((HC.out _ HR.out).2 2 _ rfl)
                        have d1_3 := ((HC.out _ HR.out).2 3 _ rfl)
                        have d1_4 := ((HC.out _ HR.out).2 4 _ rfl)
                        have d1_5 := ((HC.out _ HR.out).2 5 _ rfl)
                        go_wp2_with fail
                        refine (KV1.out _ HR.out).mono ?_
                        rintro r wy ⟨rfl, hby⟩
                        have HR := Lib.hid (below_next HR.out hby)
                        clear hby d1_0 d1_1 d1_2 d1_3 d1_4 d1_5
                        have d0_0 := ((HC.out _ HR.out).1 0 _ rfl)
                        have d0_1 := ((HC.out _ HR.out).1 1 _ rfl)
                        have d0_2 := ((HC.out _ HR.out).1 2 _ rfl)
                        have d0_3 := ((HC.out _ HR.out).1 3 _ rfl)
                        have d0_4 := ((HC.out _ HR.out).1 4 _ rfl)
                        have d0_5 := ((HC.out _ HR.out).1 5 _ rfl)
                        go_upto_region 6 with fail
                        clear d0_0 d0_1 d0_2 d0_3 d0_4 d0_5
                        obtain ⟨G, hG⟩ : ∃ q, wy.heap.size = q := ⟨_, rfl⟩
                        rw [hG]
                        have hA := below_box wy (.cells #[.int .i64 e0.kind, .int .i64 e0.op, .int .i64 e0.int, .string e0.name, .bool e0.at_, .slice p0 N0 c0] 24)
                        have hA2 := (MapKept.heap_alloc wy (.cells #[.int .i64 e0.kind, .int .i64 e0.op, .int .i64 e0.int, .string e0.name, .bool e0.at_, .slice p0 N0 c0] 24)).1
                        have hB := below_box (wy.alloc (.cells #[.int .i64 e0.kind, .int .i64 e0.op, .int .i64 e0.int, .string e0.name, .bool e0.at_, .slice p0 N0 c0] 24)) (.cells #[.int .i64 kind, .int .i64 0, .int .i64 0, .string ⟨#[]⟩, .bool false, .slice (some ⟨G, 0, none⟩) 1 1] 24)
                        have hB2 := (MapKept.heap_alloc (wy.alloc (.cells #[.int .i64 e0.kind, .int .i64 e0.op, .int .i64 e0.int, .string e0.name, .bool e0.at_, .slice p0 N0 c0] 24)) (.cells #[.int .i64 kind, .int .i64 0, .int .i64 0, .string ⟨#[]⟩, .bool false, .slice (some ⟨G, 0, none⟩) 1 1] 24)).1
                        rw [World.size_alloc, hG] at hB2
                        rw [hG] at hA2
                        obtain ⟨w3, hw3⟩ : ∃ q, q = (wy.alloc (.cells #[.int .i64 e0.kind, .int .i64 e0.op, .int .i64 e0.int, .string e0.name, .bool e0.at_, .slice p0 N0 c0] 24)).alloc (.cells #[.int .i64 kind, .int .i64 0, .int .i64 0, .string ⟨#[]⟩, .bool false, .slice (some ⟨G, 0, none⟩) 1 1] 24) := ⟨_, rfl⟩
                        rw [← hw3] at hB hB2 ⊢
                        have hA3 := (hB.block G (lt_of_block hA2)).trans hA2
                        have HB3 := Lib.hid (below_next (below_next HR.out hA) hB)
                        have hGw : w1.heap.size ≤ G := by rw [← hG]; exact HR.out.size
                        have hsl := slE_blk hA3 [(e0, .slice p0 N0 c0)] (by simp) rfl (fun z hz => by
                          obtain rfl := List.mem_singleton.1 hz
                          exact ⟨HB0.out, HS0.out.keep HB3.out⟩)
                        have HSL := Lib.hid hsl
                        clear hA hA2 hA3 hB hsl hw3 hG
                        clear hB2 hGw
                        go_wp2_with fail
                        go_ret
                        exact ⟨rfl, below_next HB1.out HB3.out⟩
                      · skip
                        by_cases ho1 : 12 < op
                        · go_enter Tryz.func7, Tryz.ntmps7
                          go_upto_region 1 with fail
                          rw [← HW1.out]
                          have HR := Lib.hid (Below.refl w1.heap.size w1)
                          go_wp2_with fail
                          refine (KA.out _ HR.out).mono ?_
                          rintro r wy ⟨rfl, hby⟩
                          have HR := Lib.hid (below_next HR.out hby)
                          clear hby
                          have d0_0 := ((HC.out _ HR.out).1 0 _ rfl)
                          have d0_1 := ((HC.out _ HR.out).1 1 _ rfl)
                          have d0_2 := ((HC.out _ HR.out).1 2 _ rfl)
                          have d0_3 := ((HC.out _ HR.out).1 3 _ rfl)
                          have d0_4 := ((HC.out _ HR.out).1 4 _ rfl)
                          have d0_5 := ((HC.out _ HR.out).1 5 _ rfl)
                          go_wp2_with fail
                          refine (KF0.out _ HR.out).mono ?_
                          rintro r wy ⟨rfl, hby⟩
                          have HR := Lib.hid (below_next HR.out hby)
                          clear hby d0_0 d0_1 d0_2 d0_3 d0_4 d0_5
                          have d1_0 := ((HC.out _ HR.out).2 0 _ rfl)
                          have d1_1 := ((HC.out _ HR.out).2 1 _ rfl)
                          have d1_2 := ((HC.out _ HR.out).2 2 _ rfl)
                          have d1_3 := ((HC.out _ HR.out).2 3 _ rfl)
                          have d1_4 := ((HC.out _ HR.out).2 4 _ rfl)
                          have d1_5 := ((HC.out _ HR.out).2 5 _ rfl)
                          go_wp2_with fail
                          refine (KF1.out _ HR.out).mono ?_
                          rintro r wy ⟨rfl, hby⟩
                          have HR := Lib.hid (below_next HR.out hby)
                          clear hby d1_0 d1_1 d1_2 d1_3 d1_4 d1_5
                          have d0_0 := ((HC.out _ HR.out).1 0 _ rfl)
                          have d0_1 := ((HC.out _ HR.out).1 1 _ rfl)
                          have d0_2 := ((HC.out _ HR.out).1 2 _ rfl)
                          have d0_3 := ((HC.out _ HR.out).1 3 _ rfl)
                          have d0_4 := ((HC.out _ HR.out).1 4 _ rfl)
                          have d0_5 := ((HC.out _ HR.out).1 5 _ rfl)
                          go_wp2_with fail
                          refine (KV0.out _ HR.out).mono ?_
                          rintro r wy ⟨rfl, hby⟩
                          have HR := Lib.hid (below_next HR.out hby)
                          clear hby d0_0 d0_1 d0_2 d0_3 d0_4 d0_5
                          have d1_0 := ((HC.out _ HR.out).2 0 _ rfl)
                          have d1_1 := ((HC.out _ HR.out).2 1 _ rfl)
                          have d1_2 := ((HC.out _ HR.out).2 2 _ rfl)
                          have d1_3 := ((HC.out _ HR.out).2 3 _ rfl)
                          have d1_4 := ((HC.out _ HR.out).2 4 _ rfl)
                          have d1_5 := ((HC.out _ HR.out).2 5 _ rfl)
                          go_wp2_with fail
                          refine (KV1.out _ HR.out).mono ?_
                          rintro r wy ⟨rfl, hby⟩
                          have HR := Lib.hid (below_next HR.out hby)
                          clear hby d1_0 d1_1 d1_2 d1_3 d1_4 d1_5
                          have d0_0 := ((HC.out _ HR.out).1 0 _ rfl)
                          have d0_1 := ((HC.out _ HR.out).1 1 _ rfl)
                          have d0_2 := ((HC.out _ HR.out).1 2 _ rfl)
                          have d0_3 := ((HC.out _ HR.out).1 3 _ rfl)
                          have d0_4 := ((HC.out _ HR.out).1 4 _ rfl)
                          have d0_5 := ((HC.out _ HR.out).1 5 _ rfl)
                          go_upto_region 6 with fail
                          clear d0_0 d0_1 d0_2 d0_3 d0_4 d0_5
                          obtain ⟨G, hG⟩ : ∃ q, wy.heap.size = q := ⟨_, rfl⟩
                          rw [hG]
                          have hA := below_box wy (.cells #[.int .i64 e0.kind, .int .i64 e0.op, .int .i64 e0.int, .string e0.name, .bool e0.at_, .slice p0 N0 c0] 24)
                          have hA2 := (MapKept.heap_alloc wy (.cells #[.int .i64 e0.kind, .int .i64 e0.op, .int .i64 e0.int, .string e0.name, .bool e0.at_, .slice p0 N0 c0] 24)).1
                          have hB := below_box (wy.alloc (.cells #[.int .i64 e0.kind, .int .i64 e0.op, .int .i64 e0.int, .string e0.name, .bool e0.at_, .slice p0 N0 c0] 24)) (.cells #[.int .i64 kind, .int .i64 0, .int .i64 0, .string ⟨#[]⟩, .bool false, .slice (some ⟨G, 0, none⟩) 1 1] 24)
                          have hB2 := (MapKept.heap_alloc (wy.alloc (.cells #[.int .i64 e0.kind, .int .i64 e0.op, .int .i64 e0.int, .string e0.name, .bool e0.at_, .slice p0 N0 c0] 24)) (.cells #[.int .i64 kind, .int .i64 0, .int .i64 0, .string ⟨#[]⟩, .bool false, .slice (some ⟨G, 0, none⟩) 1 1] 24)).1
                          rw [World.size_alloc, hG] at hB2
                          rw [hG] at hA2
                          obtain ⟨w3, hw3⟩ : ∃ q, q = (wy.alloc (.cells #[.int .i64 e0.kind, .int .i64 e0.op, .int .i64 e0.int, .string e0.name, .bool e0.at_, .slice p0 N0 c0] 24)).alloc (.cells #[.int .i64 kind, .int .i64 0, .int .i64 0, .string ⟨#[]⟩, .bool false, .slice (some ⟨G, 0, none⟩) 1 1] 24) := ⟨_, rfl⟩
                          rw [← hw3] at hB hB2 ⊢
                          have hA3 := (hB.block G (lt_of_block hA2)).trans hA2
                          have HB3 := Lib.hid (below_next (below_next HR.out hA) hB)
                          have hGw : w1.heap.size ≤ G := by rw [← hG]; exact HR.out.size
                          have hsl := slE_blk hA3 [(e0, .slice p0 N0 c0)] (by simp) rfl (fun z hz => by
                            obtain rfl := List.mem_singleton.1 hz
                            exact ⟨HB0.out, HS0.out.keep HB3.out⟩)
                          have HSL := Lib.hid hsl
                          clear hA hA2 hA3 hB hsl hw3 hG
                          clear hB2 hGw
                          go_wp2_with fail
                          go_ret
                          exact ⟨rfl, below_next HB1.out HB3.out⟩
                        · skip
                          obtain ⟨O, rfl⟩ : ∃ q : Nat, op = q := ⟨op.toNat, by omega⟩
                          have hO : O ≤ 12 := by omega
                          have ko := refOpLevel_any O hO
                          have ks := refSymbol_any O hO
                          obtain ⟨L, hL⟩ : ∃ q, Sy.opLevel (O : Int) = q := ⟨_, rfl⟩
                          obtain ⟨SY, hSY⟩ : ∃ q : ByteArray, ⟨(Sy.sym (O : Int)).toArray⟩ = q := ⟨_, rfl⟩
                          have hSs : SY.size ≤ 3 := by rw [← hSY]; exact Sy.sym_len _
                          have hL6 : L ≤ 6 := by
                            rw [← hL]
                            unfold Sy.opLevel
                            repeat' split
                            all_goals omega
                          rw [hL] at ko
                          rw [hSY] at ks
                          have KO := Lib.hid ko
                          have KS := Lib.hid ks
                          clear ko ks
                          by_cases hL4 : L = 4
                          · subst hL4
                            obtain ⟨PA, hPA⟩ : ∃ q, pB 5 e0 = q := ⟨_, rfl⟩
                            obtain ⟨PB, hPB⟩ : ∃ q, pB (4 + 1) e1 = q := ⟨_, rfl⟩
                            have hPs : PA.size ≤ 100002 := by rw [← hPA]; exact par_size 5 e0 HZ0.out
                            have hQs : PB.size ≤ 100002 := by rw [← hPB]; exact par_size (4 + 1) e1 HZ1.out
                            have KIA : Hid (∀ W, Below w1.heap.size w1 W → Calls Tryz.prog 28 #[.agg #[.int .i64 e0.kind, .int .i64 e0.op, .int .i64 e0.int, .string e0.name, .bool e0.at_, .slice p0 N0 c0], .int .i64 5] W fun r w' => r = .returned (.string PA) ∧ Below W.heap.size W w') := fun W hb => by rw [← hPA]; exact KI0.out 5 W hb
                            have KIB : Hid (∀ W, Below w1.heap.size w1 W → Calls Tryz.prog 28 #[.agg #[.int .i64 e1.kind, .int .i64 e1.op, .int .i64 e1.int, .string e1.name, .bool e1.at_, .slice p1 N1 c1], .int .i64 5] W fun r w' => r = .returned (.string PB) ∧ Below W.heap.size W w') := fun W hb => by rw [← hPB]; exact KI1.out (4 + 1) W hb
                            have KB : Hid (∀ W, Below w1.heap.size w1 W → Calls Tryz.prog 30 #[.int .i64 O, .agg #[.int .i64 e0.kind, .int .i64 e0.op, .int .i64 e0.int, .string e0.name, .bool e0.at_, .slice p0 N0 c0], .agg #[.int .i64 e1.kind, .int .i64 e1.op, .int .i64 e1.int, .string e1.name, .bool e1.at_, .slice p1 N1 c1]] W fun e w' => ∃ g, e = .returned (.agg #[.int .i64 10, .int .i64 O, .int .i64 0, .string ⟨#[]⟩, .bool false, .slice (some ⟨g, 0, none⟩) 2 2]) ∧ SlE w' (.slice (some ⟨g, 0, none⟩) 2 2) [e0, e1] ∧ Below W.heap.size W w') := fun W hb => lawBinary_any O e0 e1 _ _ W HB0.out HB1E.out (HS0.out.keep hb) (HS1.out.keep hb)
                            have K1 : Hid (∀ W g, Below w1.heap.size w1 W → SlE W (.slice (some ⟨g, 0, none⟩) 2 2) [e0, e1] → Calls Tryz.prog 15 #[.agg #[.int .i64 10, .int .i64 O, .int .i64 0, .string ⟨#[]⟩, .bool false, .slice (some ⟨g, 0, none⟩) 2 2]] W fun r w' => r = .returned (.string (PA ++ ⟨#[32]⟩ ++ SY ++ ⟨#[32]⟩ ++ PB)) ∧ Below W.heap.size W w') := fun W g hb hsl => by
                              have h := syExpr_any (.mk 10 O 0 ⟨#[]⟩ false [e0, e1]) (.slice (some ⟨g, 0, none⟩) 2 2) W (HEZ.out.keep hb) (bdE_mk (by decide) (show Tr.I64 (O : Int) from ⟨by omega, by omega⟩) (by decide) (by decide)) hsl (Nat.le_trans (one_len (tl_two HZ0.out HZ1.out)) (by decide))
                              rw [bin_text (by omega) (by omega) HV0.out HV1.out, hL, if_pos rfl, hPA, hPB, hSY] at h
                              exact h
                            clear hPA hPB hSY hL
                            go_enter Tryz.func7, Tryz.ntmps7
                            go_upto_region 1 with fail
                            rw [← HW1.out]
                            have HR := Lib.hid (Below.refl w1.heap.size w1)
                            go_wp2_with fail
                            refine (KA.out _ HR.out).mono ?_
                            rintro r wy ⟨rfl, hby⟩
                            have HR := Lib.hid (below_next HR.out hby)
                            clear hby
                            have d0_0 := ((HC.out _ HR.out).1 0 _ rfl)
                            have d0_1 := ((HC.out _ HR.out).1 1 _ rfl)
                            have d0_2 := ((HC.out _ HR.out).1 2 _ rfl)
                            have d0_3 := ((HC.out _ HR.out).1 3 _ rfl)
                            have d0_4 := ((HC.out _ HR.out).1 4 _ rfl)
                            have d0_5 := ((HC.out _ HR.out).1 5 _ rfl)
                            go_wp2_with fail
                            refine (KF0.out _ HR.out).mono ?_
                            rintro r wy ⟨rfl, hby⟩
                            have HR := Lib.hid (below_next HR.out hby)
                            clear hby d0_0 d0_1 d0_2 d0_3 d0_4 d0_5
                            have d1_0 := ((HC.out _ HR.out).2 0 _ rfl)
                            have d1_1 := ((HC.out _ HR.out).2 1 _ rfl)
                            have d1_2 := ((HC.out _ HR.out).2 2 _ rfl)
                            have d1_3 := ((HC.out _ HR.out).2 3 _ rfl)
                            have d1_4 := ((HC.out _ HR.out).2 4 _ rfl)
                            have d1_5 := ((HC.out _ HR.out).2 5 _ rfl)
                            go_wp2_with fail
                            refine (KF1.out _ HR.out).mono ?_
                            rintro r wy ⟨rfl, hby⟩
                            have HR := Lib.hid (below_next HR.out hby)
                            clear hby d1_0 d1_1 d1_2 d1_3 d1_4 d1_5
                            have d0_0 := ((HC.out _ HR.out).1 0 _ rfl)
                            have d0_1 := ((HC.out _ HR.out).1 1 _ rfl)
                            have d0_2 := ((HC.out _ HR.out).1 2 _ rfl)
                            have d0_3 := ((HC.out _ HR.out).1 3 _ rfl)
                            have d0_4 := ((HC.out _ HR.out).1 4 _ rfl)
                            have d0_5 := ((HC.out _ HR.out).1 5 _ rfl)
                            go_wp2_with fail
                            refine (KV0.out _ HR.out).mono ?_
                            rintro r wy ⟨rfl, hby⟩
                            have HR := Lib.hid (below_next HR.out hby)
                            clear hby d0_0 d0_1 d0_2 d0_3 d0_4 d0_5
                            have d1_0 := ((HC.out _ HR.out).2 0 _ rfl)
                            have d1_1 := ((HC.out _ HR.out).2 1 _ rfl)
                            have d1_2 := ((HC.out _ HR.out).2 2 _ rfl)
                            have d1_3 := ((HC.out _ HR.out).2 3 _ rfl)
                            have d1_4 := ((HC.out _ HR.out).2 4 _ rfl)
                            have d1_5 := ((HC.out _ HR.out).2 5 _ rfl)
                            go_wp2_with fail
                            refine (KV1.out _ HR.out).mono ?_
                            rintro r wy ⟨rfl, hby⟩
                            have HR := Lib.hid (below_next HR.out hby)
                            clear hby d1_0 d1_1 d1_2 d1_3 d1_4 d1_5
                            have d0_0 := ((HC.out _ HR.out).1 0 _ rfl)
                            have d0_1 := ((HC.out _ HR.out).1 1 _ rfl)
                            have d0_2 := ((HC.out _ HR.out).1 2 _ rfl)
                            have d0_3 := ((HC.out _ HR.out).1 3 _ rfl)
                            have d0_4 := ((HC.out _ HR.out).1 4 _ rfl)
                            have d0_5 := ((HC.out _ HR.out).1 5 _ rfl)
                            go_upto_region 6 with fail
                            clear d0_0 d0_1 d0_2 d0_3 d0_4 d0_5
                            obtain ⟨G, hG⟩ : ∃ q, wy.heap.size = q := ⟨_, rfl⟩
                            rw [hG]
                            have hA := below_box wy (.cells #[.int .i64 e0.kind, .int .i64 e0.op, .int .i64 e0.int, .string e0.name, .bool e0.at_, .slice p0 N0 c0] 24)
                            have hA2 := (MapKept.heap_alloc wy (.cells #[.int .i64 e0.kind, .int .i64 e0.op, .int .i64 e0.int, .string e0.name, .bool e0.at_, .slice p0 N0 c0] 24)).1
                            have hB := below_box (wy.alloc (.cells #[.int .i64 e0.kind, .int .i64 e0.op, .int .i64 e0.int, .string e0.name, .bool e0.at_, .slice p0 N0 c0] 24)) (.cells #[.int .i64 kind, .int .i64 0, .int .i64 0, .string ⟨#[]⟩, .bool false, .slice (some ⟨G, 0, none⟩) 1 1] 24)
                            have hB2 := (MapKept.heap_alloc (wy.alloc (.cells #[.int .i64 e0.kind, .int .i64 e0.op, .int .i64 e0.int, .string e0.name, .bool e0.at_, .slice p0 N0 c0] 24)) (.cells #[.int .i64 kind, .int .i64 0, .int .i64 0, .string ⟨#[]⟩, .bool false, .slice (some ⟨G, 0, none⟩) 1 1] 24)).1
                            rw [World.size_alloc, hG] at hB2
                            rw [hG] at hA2
                            obtain ⟨w3, hw3⟩ : ∃ q, q = (wy.alloc (.cells #[.int .i64 e0.kind, .int .i64 e0.op, .int .i64 e0.int, .string e0.name, .bool e0.at_, .slice p0 N0 c0] 24)).alloc (.cells #[.int .i64 kind, .int .i64 0, .int .i64 0, .string ⟨#[]⟩, .bool false, .slice (some ⟨G, 0, none⟩) 1 1] 24) := ⟨_, rfl⟩
                            rw [← hw3] at hB hB2 ⊢
                            have hA3 := (hB.block G (lt_of_block hA2)).trans hA2
                            have HB3 := Lib.hid (below_next (below_next HR.out hA) hB)
                            have hGw : w1.heap.size ≤ G := by rw [← hG]; exact HR.out.size
                            have hsl := slE_blk hA3 [(e0, .slice p0 N0 c0)] (by simp) rfl (fun z hz => by
                              obtain rfl := List.mem_singleton.1 hz
                              exact ⟨HB0.out, HS0.out.keep HB3.out⟩)
                            have HSL := Lib.hid hsl
                            clear hA hA2 hA3 hB hsl hw3 hG
                            clear hB2 hGw hkind hop
                            go_upto_region 22 with fail
                            go_wp2_with fail
                            refine (KO.out _).mono ?_
                            rintro r wt ⟨rfl, hwt⟩
                            rw [hwt]
                            clear hwt
                            go_upto_region 26 with fail
                            have k1 : ¬ 9223372036854775807 < PA.size + 1 := by omega
                            have k2 : ¬ 9223372036854775807 < PA.size + 1 + SY.size := by omega
                            have k3 : ¬ 9223372036854775807 < PA.size + 1 + SY.size + 1 := by omega
                            have k4 : ¬ 9223372036854775807 < PA.size + 1 + SY.size + 1 + PB.size := by omega
                            have d0_0 := ((HC.out _ HB3.out).1 0 _ rfl)
                            have d0_1 := ((HC.out _ HB3.out).1 1 _ rfl)
                            have d0_2 := ((HC.out _ HB3.out).1 2 _ rfl)
                            have d0_3 := ((HC.out _ HB3.out).1 3 _ rfl)
                            have d0_4 := ((HC.out _ HB3.out).1 4 _ rfl)
                            have d0_5 := ((HC.out _ HB3.out).1 5 _ rfl)
                            have d1_0 := ((HC.out _ HB3.out).2 0 _ rfl)
                            have d1_1 := ((HC.out _ HB3.out).2 1 _ rfl)
                            have d1_2 := ((HC.out _ HB3.out).2 2 _ rfl)
                            have d1_3 := ((HC.out _ HB3.out).2 3 _ rfl)
                            have d1_4 := ((HC.out _ HB3.out).2 4 _ rfl)
                            have d1_5 := ((HC.out _ HB3.out).2 5 _ rfl)
                            refine wp_region_held_drew (S := fun W => W.cell? ⟨w.heap.size, 0, none⟩ = some (.int .i64 e0.kind) ∧ W.cell? ⟨w.heap.size, 1, none⟩ = some (.int .i64 e0.op) ∧ W.cell? ⟨w.heap.size, 2, none⟩ = some (.int .i64 e0.int) ∧ W.cell? ⟨w.heap.size, 3, none⟩ = some (.string e0.name) ∧ W.cell? ⟨w.heap.size, 4, none⟩ = some (.bool e0.at_) ∧ W.cell? ⟨w.heap.size, 5, none⟩ = some (.slice p0 N0 c0) ∧ W.cell? ⟨w.heap.size + 1, 0, none⟩ = some (.int .i64 e1.kind) ∧ W.cell? ⟨w.heap.size + 1, 1, none⟩ = some (.int .i64 e1.op) ∧ W.cell? ⟨w.heap.size + 1, 2, none⟩ = some (.int .i64 e1.int) ∧ W.cell? ⟨w.heap.size + 1, 3, none⟩ = some (.string e1.name) ∧ W.cell? ⟨w.heap.size + 1, 4, none⟩ = some (.bool e1.at_) ∧ W.cell? ⟨w.heap.size + 1, 5, none⟩ = some (.slice p1 N1 c1) ∧ Hid (Below w3.heap.size w3 W)) (by kernel_rfl) ?_ (fun hHeld => ?_)
                            · exact ⟨d0_0, d0_1, d0_2, d0_3, d0_4, d0_5, d1_0, d1_1, d1_2, d1_3, d1_4, d1_5, Lib.hid (Below.refl _ _).drew⟩
                            clear d0_0 d0_1 d0_2 d0_3 d0_4 d0_5 d1_0 d1_1 d1_2 d1_3 d1_4 d1_5
                            refine wpAnyH_take (i := 0) (oi := ⟨some 108, _, _, _, _, _⟩) (v := ?_) rfl (by kernel_rfl) (by kernel_rfl) (by kernel_rfl) (fun _ _ _ h => h) (Or.inl ⟨by rfl, ?_⟩) (by assumption) ?_
                            rotate_left
                            · (intro w hSw; (try dsimp only at hSw); go_simp; (try with_reducible rfl))
                            try simp only [Act.put, List.setIfInBounds_toArray, List.set_cons_zero, List.set_cons_succ]
                            refine wpAnyH_take (i := 1) (oi := ⟨some 109, _, _, _, _, _⟩) (v := ?_) rfl (by kernel_rfl) (by kernel_rfl) (by kernel_rfl) (fun _ _ _ h => h) (Or.inl ⟨by rfl, ?_⟩) (by assumption) ?_
                            rotate_left
                            · (intro w hSw; (try dsimp only at hSw); go_simp; (try with_reducible rfl))
                            try simp only [Act.put, List.setIfInBounds_toArray, List.set_cons_zero, List.set_cons_succ]
                            refine wpAnyH_take (i := 2) (oi := ⟨some 110, _, _, _, _, _⟩) (v := ?_) rfl (by kernel_rfl) (by kernel_rfl) (by kernel_rfl) (fun _ _ _ h => h) (Or.inl ⟨by rfl, ?_⟩) (by assumption) ?_
                            rotate_left
                            · (intro w hSw; (try dsimp only at hSw); go_simp; (try with_reducible rfl))
                            try simp only [Act.put, List.setIfInBounds_toArray, List.set_cons_zero, List.set_cons_succ]
                            refine wpAnyH_take (i := 5) (oi := ⟨some 113, _, _, _, _, _⟩) (v := ?_) rfl (by kernel_rfl) (by kernel_rfl) (by kernel_rfl) (fun _ _ _ h => h) (Or.inl ⟨by rfl, ?_⟩) (by assumption) ?_
                            rotate_left
                            · (intro w hSw; (try dsimp only at hSw); go_simp; (try with_reducible rfl))
                            try simp only [Act.put, List.setIfInBounds_toArray, List.set_cons_zero, List.set_cons_succ]
                            refine wpAnyH_take (i := 6) (oi := ⟨some 114, _, _, _, _, _⟩) (v := ?_) rfl (by kernel_rfl) (by kernel_rfl) (by kernel_rfl) (fun _ _ _ h => h) (Or.inl ⟨by rfl, ?_⟩) (by assumption) ?_
                            rotate_left
                            · (intro w hSw; (try dsimp only at hSw); go_simp; (try with_reducible rfl))
                            try simp only [Act.put, List.setIfInBounds_toArray, List.set_cons_zero, List.set_cons_succ]
                            refine wpAnyH_take (i := 9) (oi := ⟨some 117, _, _, _, _, _⟩) (v := ?_) rfl (by kernel_rfl) (by kernel_rfl) (by kernel_rfl) (fun _ _ _ h => h) (Or.inl ⟨by rfl, ?_⟩) (by assumption) ?_
                            rotate_left
                            · (intro w hSw; (try dsimp only at hSw); go_simp; (try with_reducible rfl))
                            try simp only [Act.put, List.setIfInBounds_toArray, List.set_cons_zero, List.set_cons_succ]
                            refine wpAnyH_take (i := 13) (oi := ⟨some 121, _, _, _, _, _⟩) (v := ?_) rfl (by kernel_rfl) (by kernel_rfl) (by kernel_rfl) (fun _ _ _ h => h) (Or.inl ⟨by rfl, ?_⟩) (by assumption) ?_
                            rotate_left
                            · (intro w hSw; (try dsimp only at hSw); go_simp; (try with_reducible rfl))
                            try simp only [Act.put, List.setIfInBounds_toArray, List.set_cons_zero, List.set_cons_succ]
                            refine wpAnyH_take (i := 14) (oi := ⟨some 122, _, _, _, _, _⟩) (v := ?_) rfl (by kernel_rfl) (by kernel_rfl) (by kernel_rfl) (fun _ _ _ h => h) (Or.inl ⟨by rfl, ?_⟩) (by assumption) ?_
                            rotate_left
                            · (intro w hSw; (try dsimp only at hSw); go_simp; (try with_reducible rfl))
                            try simp only [Act.put, List.setIfInBounds_toArray, List.set_cons_zero, List.set_cons_succ]
                            refine wpAnyH_ready (rs := [3]) (by kernel_rfl) (by simp) ?_
                            refine AllReadyH.cons (o := ⟨some 111, _, _, _, _, _⟩) rfl (fun K hK => ?_) AllReadyH.nil
                            go_simp
                            with_reducible refine (KB.out _ (below_next HB3.out hHeld.2.2.2.2.2.2.2.2.2.2.2.2.out)).mono ?_
                            rintro e w' ⟨g, rfl, hsl, hb⟩
                            go_wp2_with fail
                            refine hK.out _ _ ?_ (fun hHeld => ?_)
                            · exact ⟨cell_keep' hb hHeld.1, cell_keep' hb hHeld.2.1, cell_keep' hb hHeld.2.2.1, cell_keep' hb hHeld.2.2.2.1, cell_keep' hb hHeld.2.2.2.2.1, cell_keep' hb hHeld.2.2.2.2.2.1, cell_keep' hb hHeld.2.2.2.2.2.2.1, cell_keep' hb hHeld.2.2.2.2.2.2.2.1, cell_keep' hb hHeld.2.2.2.2.2.2.2.2.1, cell_keep' hb hHeld.2.2.2.2.2.2.2.2.2.1, cell_keep' hb hHeld.2.2.2.2.2.2.2.2.2.2.1, cell_keep' hb hHeld.2.2.2.2.2.2.2.2.2.2.2.1, Lib.hid (below_next hHeld.2.2.2.2.2.2.2.2.2.2.2.2.out hb)⟩
                            clear hK K
                            try simp only [Act.put, List.setIfInBounds_toArray, List.set_cons_zero, List.set_cons_succ]
                            clear hb
                            refine wpAnyH_ready (rs := [4]) (by kernel_rfl) (by simp) ?_
                            refine AllReadyH.cons (o := ⟨some 112, _, _, _, _, _⟩) rfl (fun K hK => ?_) AllReadyH.nil
                            go_simp
                            with_reducible refine (K1.out _ _ (below_next HB3.out hHeld.2.2.2.2.2.2.2.2.2.2.2.2.out) hsl).mono ?_
                            rintro e w' ⟨rfl, hb⟩
                            go_wp2_with fail
                            refine hK.out _ _ ?_ (fun hHeld => ?_)
                            · exact ⟨cell_keep' hb hHeld.1, cell_keep' hb hHeld.2.1, cell_keep' hb hHeld.2.2.1, cell_keep' hb hHeld.2.2.2.1, cell_keep' hb hHeld.2.2.2.2.1, cell_keep' hb hHeld.2.2.2.2.2.1, cell_keep' hb hHeld.2.2.2.2.2.2.1, cell_keep' hb hHeld.2.2.2.2.2.2.2.1, cell_keep' hb hHeld.2.2.2.2.2.2.2.2.1, cell_keep' hb hHeld.2.2.2.2.2.2.2.2.2.1, cell_keep' hb hHeld.2.2.2.2.2.2.2.2.2.2.1, cell_keep' hb hHeld.2.2.2.2.2.2.2.2.2.2.2.1, Lib.hid (below_next hHeld.2.2.2.2.2.2.2.2.2.2.2.2.out hb)⟩
                            clear hK K
                            try simp only [Act.put, List.setIfInBounds_toArray, List.set_cons_zero, List.set_cons_succ]
                            clear hb
                            refine wpAnyH_ready (rs := [7]) (by kernel_rfl) (by simp) ?_
                            refine AllReadyH.cons (o := ⟨some 115, _, _, _, _, _⟩) rfl (fun K hK => ?_) AllReadyH.nil
                            go_simp
                            with_reducible refine (KIA.out _ (below_next HB3.out hHeld.2.2.2.2.2.2.2.2.2.2.2.2.out)).mono ?_
                            rintro e w' ⟨rfl, hb⟩
                            go_wp2_with fail
                            refine hK.out _ _ ?_ (fun hHeld => ?_)
                            · exact ⟨cell_keep' hb hHeld.1, cell_keep' hb hHeld.2.1, cell_keep' hb hHeld.2.2.1, cell_keep' hb hHeld.2.2.2.1, cell_keep' hb hHeld.2.2.2.2.1, cell_keep' hb hHeld.2.2.2.2.2.1, cell_keep' hb hHeld.2.2.2.2.2.2.1, cell_keep' hb hHeld.2.2.2.2.2.2.2.1, cell_keep' hb hHeld.2.2.2.2.2.2.2.2.1, cell_keep' hb hHeld.2.2.2.2.2.2.2.2.2.1, cell_keep' hb hHeld.2.2.2.2.2.2.2.2.2.2.1, cell_keep' hb hHeld.2.2.2.2.2.2.2.2.2.2.2.1, Lib.hid (below_next hHeld.2.2.2.2.2.2.2.2.2.2.2.2.out hb)⟩
                            clear hK K
                            try simp only [Act.put, List.setIfInBounds_toArray, List.set_cons_zero, List.set_cons_succ]
                            clear hb
                            refine wpAnyH_take (i := 8) (oi := ⟨some 116, _, _, _, _, _⟩) (v := ?_) rfl (by kernel_rfl) (by kernel_rfl) (by kernel_rfl) (fun _ _ _ h => h) (Or.inl ⟨by rfl, ?_⟩) (by assumption) ?_
                            rotate_left
                            · (intro w hSw; (try dsimp only at hSw); go_simp; (try with_reducible rfl))
                            try simp only [Act.put, List.setIfInBounds_toArray, List.set_cons_zero, List.set_cons_succ]
                            refine wpAnyH_ready (rs := [10]) (by kernel_rfl) (by simp) ?_
                            refine AllReadyH.cons (o := ⟨some 118, _, _, _, _, _⟩) rfl (fun K hK => ?_) AllReadyH.nil
                            go_simp
                            with_reducible refine (KS.out _).mono ?_
                            rintro e w' ⟨rfl, hb⟩
                            go_wp2_with fail
                            refine hK.out _ _ ?_ (fun hHeld => ?_)
                            · exact ⟨cell_keep' hb hHeld.1, cell_keep' hb hHeld.2.1, cell_keep' hb hHeld.2.2.1, cell_keep' hb hHeld.2.2.2.1, cell_keep' hb hHeld.2.2.2.2.1, cell_keep' hb hHeld.2.2.2.2.2.1, cell_keep' hb hHeld.2.2.2.2.2.2.1, cell_keep' hb hHeld.2.2.2.2.2.2.2.1, cell_keep' hb hHeld.2.2.2.2.2.2.2.2.1, cell_keep' hb hHeld.2.2.2.2.2.2.2.2.2.1, cell_keep' hb hHeld.2.2.2.2.2.2.2.2.2.2.1, cell_keep' hb hHeld.2.2.2.2.2.2.2.2.2.2.2.1, Lib.hid (below_next hHeld.2.2.2.2.2.2.2.2.2.2.2.2.out hb)⟩
                            clear hK K
                            try simp only [Act.put, List.setIfInBounds_toArray, List.set_cons_zero, List.set_cons_succ]
                            clear hb
                            refine wpAnyH_take (i := 11) (oi := ⟨some 119, _, _, _, _, _⟩) (v := ?_) rfl (by kernel_rfl) (by kernel_rfl) (by kernel_rfl) (fun _ _ _ h => h) (Or.inl ⟨by rfl, ?_⟩) (by assumption) ?_
                            rotate_left
                            · (intro w hSw; (try dsimp only at hSw); go_simp; (try with_reducible rfl))
                            try simp only [Act.put, List.setIfInBounds_toArray, List.set_cons_zero, List.set_cons_succ]
                            refine wpAnyH_take (i := 12) (oi := ⟨some 120, _, _, _, _, _⟩) (v := ?_) rfl (by kernel_rfl) (by kernel_rfl) (by kernel_rfl) (fun _ _ _ h => h) (Or.inl ⟨by rfl, ?_⟩) (by assumption) ?_
                            rotate_left
                            · (intro w hSw; (try dsimp only at hSw); go_simp; (try with_reducible rfl))
                            try simp only [Act.put, List.setIfInBounds_toArray, List.set_cons_zero, List.set_cons_succ]
                            refine wpAnyH_ready (rs := [15]) (by kernel_rfl) (by simp) ?_
                            refine AllReadyH.cons (o := ⟨some 123, _, _, _, _, _⟩) rfl (fun K hK => ?_) AllReadyH.nil
                            go_simp
                            with_reducible refine (KIB.out _ (below_next HB3.out hHeld.2.2.2.2.2.2.2.2.2.2.2.2.out)).mono ?_
                            rintro e w' ⟨rfl, hb⟩
                            go_wp2_with fail
                            refine hK.out _ _ ?_ (fun hHeld => ?_)
                            · exact ⟨cell_keep' hb hHeld.1, cell_keep' hb hHeld.2.1, cell_keep' hb hHeld.2.2.1, cell_keep' hb hHeld.2.2.2.1, cell_keep' hb hHeld.2.2.2.2.1, cell_keep' hb hHeld.2.2.2.2.2.1, cell_keep' hb hHeld.2.2.2.2.2.2.1, cell_keep' hb hHeld.2.2.2.2.2.2.2.1, cell_keep' hb hHeld.2.2.2.2.2.2.2.2.1, cell_keep' hb hHeld.2.2.2.2.2.2.2.2.2.1, cell_keep' hb hHeld.2.2.2.2.2.2.2.2.2.2.1, cell_keep' hb hHeld.2.2.2.2.2.2.2.2.2.2.2.1, Lib.hid (below_next hHeld.2.2.2.2.2.2.2.2.2.2.2.2.out hb)⟩
                            clear hK K
                            try simp only [Act.put, List.setIfInBounds_toArray, List.set_cons_zero, List.set_cons_succ]
                            clear hb
                            refine wpAnyH_take (i := 16) (oi := ⟨some 124, _, _, _, _, _⟩) (v := ?_) rfl (by kernel_rfl) (by kernel_rfl) (by kernel_rfl) (fun _ _ _ h => h) (Or.inl ⟨by rfl, ?_⟩) (by assumption) ?_
                            rotate_left
                            · (intro w hSw; (try dsimp only at hSw); go_simp; (try with_reducible rfl))
                            try simp only [Act.put, List.setIfInBounds_toArray, List.set_cons_zero, List.set_cons_succ]
                            refine wpAnyH_take (i := 17) (oi := ⟨some 125, _, _, _, _, _⟩) (v := ?_) rfl (by kernel_rfl) (by kernel_rfl) (by kernel_rfl) (fun _ _ _ h => h) (Or.inl ⟨by rfl, ?_⟩) (by assumption) ?_
                            rotate_left
                            · (intro w hSw; (try dsimp only at hSw); go_simp; (try with_reducible rfl))
                            try simp only [Act.put, List.setIfInBounds_toArray, List.set_cons_zero, List.set_cons_succ]
                            refine wpAnyH_take (i := 18) (oi := ⟨some 8, _, _, _, _, _⟩) (v := ?_) rfl (by kernel_rfl) (by kernel_rfl) (by kernel_rfl) (fun _ _ _ h => h) (Or.inl ⟨by rfl, ?_⟩) (by assumption) ?_
                            rotate_left
                            · (intro w hSw; (try dsimp only at hSw); go_simp; (try with_reducible rfl))
                            try simp only [Act.put, List.setIfInBounds_toArray, List.set_cons_zero, List.set_cons_succ]
                            refine wpAnyH_done (by kernel_rfl) ?_ _
                            have HZ := Lib.hid hHeld.2.2.2.2.2.2.2.2.2.2.2.2.out
                            clear hHeld
                            go_wp2_with fail
                            go_ret
                            exact ⟨rfl, below_next HB1.out (below_next HB3.out HZ.out)⟩
                          · have m4 : ((L : Int) == 4) = false := beq_eq_false_iff_ne.2 (by omega)
                            obtain ⟨PA, hPA⟩ : ∃ q, pB L e0 = q := ⟨_, rfl⟩
                            obtain ⟨PB, hPB⟩ : ∃ q, pB (L + 1) e1 = q := ⟨_, rfl⟩
                            have hPs : PA.size ≤ 100002 := by rw [← hPA]; exact par_size L e0 HZ0.out
                            have hQs : PB.size ≤ 100002 := by rw [← hPB]; exact par_size (L + 1) e1 HZ1.out
                            have KIA : Hid (∀ W, Below w1.heap.size w1 W → Calls Tryz.prog 28 #[.agg #[.int .i64 e0.kind, .int .i64 e0.op, .int .i64 e0.int, .string e0.name, .bool e0.at_, .slice p0 N0 c0], .int .i64 L] W fun r w' => r = .returned (.string PA) ∧ Below W.heap.size W w') := fun W hb => by rw [← hPA]; exact KI0.out L W hb
                            have KIB : Hid (∀ W, Below w1.heap.size w1 W → Calls Tryz.prog 28 #[.agg #[.int .i64 e1.kind, .int .i64 e1.op, .int .i64 e1.int, .string e1.name, .bool e1.at_, .slice p1 N1 c1], .int .i64 ((L : Int) + 1)] W fun r w' => r = .returned (.string PB) ∧ Below W.heap.size W w') := fun W hb => by rw [← hPB]; exact KI1.out (L + 1) W hb
                            have KB : Hid (∀ W, Below w1.heap.size w1 W → Calls Tryz.prog 30 #[.int .i64 O, .agg #[.int .i64 e0.kind, .int .i64 e0.op, .int .i64 e0.int, .string e0.name, .bool e0.at_, .slice p0 N0 c0], .agg #[.int .i64 e1.kind, .int .i64 e1.op, .int .i64 e1.int, .string e1.name, .bool e1.at_, .slice p1 N1 c1]] W fun e w' => ∃ g, e = .returned (.agg #[.int .i64 10, .int .i64 O, .int .i64 0, .string ⟨#[]⟩, .bool false, .slice (some ⟨g, 0, none⟩) 2 2]) ∧ SlE w' (.slice (some ⟨g, 0, none⟩) 2 2) [e0, e1] ∧ Below W.heap.size W w') := fun W hb => lawBinary_any O e0 e1 _ _ W HB0.out HB1E.out (HS0.out.keep hb) (HS1.out.keep hb)
                            have K1 : Hid (∀ W g, Below w1.heap.size w1 W → SlE W (.slice (some ⟨g, 0, none⟩) 2 2) [e0, e1] → Calls Tryz.prog 15 #[.agg #[.int .i64 10, .int .i64 O, .int .i64 0, .string ⟨#[]⟩, .bool false, .slice (some ⟨g, 0, none⟩) 2 2]] W fun r w' => r = .returned (.string (PA ++ ⟨#[32]⟩ ++ SY ++ ⟨#[32]⟩ ++ PB)) ∧ Below W.heap.size W w') := fun W g hb hsl => by
                              have h := syExpr_any (.mk 10 O 0 ⟨#[]⟩ false [e0, e1]) (.slice (some ⟨g, 0, none⟩) 2 2) W (HEZ.out.keep hb) (bdE_mk (by decide) (show Tr.I64 (O : Int) from ⟨by omega, by omega⟩) (by decide) (by decide)) hsl (Nat.le_trans (one_len (tl_two HZ0.out HZ1.out)) (by decide))
                              rw [bin_text (by omega) (by omega) HV0.out HV1.out, hL, if_neg hL4, hPA, hPB, hSY] at h
                              exact h
                            clear hPA hPB hSY hL
                            go_enter Tryz.func7, Tryz.ntmps7
                            go_upto_region 1 with fail
                            rw [← HW1.out]
                            have HR := Lib.hid (Below.refl w1.heap.size w1)
                            go_wp2_with fail
                            refine (KA.out _ HR.out).mono ?_
                            rintro r wy ⟨rfl, hby⟩
                            have HR := Lib.hid (below_next HR.out hby)
                            clear hby
                            have d0_0 := ((HC.out _ HR.out).1 0 _ rfl)
                            have d0_1 := ((HC.out _ HR.out).1 1 _ rfl)
                            have d0_2 := ((HC.out _ HR.out).1 2 _ rfl)
                            have d0_3 := ((HC.out _ HR.out).1 3 _ rfl)
                            have d0_4 := ((HC.out _ HR.out).1 4 _ rfl)
                            have d0_5 := ((HC.out _ HR.out).1 5 _ rfl)
                            go_wp2_with fail
                            refine (KF0.out _ HR.out).mono ?_
                            rintro r wy ⟨rfl, hby⟩
                            have HR := Lib.hid (below_next HR.out hby)
                            clear hby d0_0 d0_1 d0_2 d0_3 d0_4 d0_5
                            have d1_0 := ((HC.out _ HR.out).2 0 _ rfl)
                            have d1_1 := ((HC.out _ HR.out).2 1 _ rfl)
                            have d1_2 := ((HC.out _ HR.out).2 2 _ rfl)
                            have d1_3 := ((HC.out _ HR.out).2 3 _ rfl)
                            have d1_4 := ((HC.out _ HR.out).2 4 _ rfl)
                            have d1_5 := ((HC.out _ HR.out).2 5 _ rfl)
                            go_wp2_with fail
                            refine (KF1.out _ HR.out).mono ?_
                            rintro r wy ⟨rfl, hby⟩
                            have HR := Lib.hid (below_next HR.out hby)
                            clear hby d1_0 d1_1 d1_2 d1_3 d1_4 d1_5
                            have d0_0 := ((HC.out _ HR.out).1 0 _ rfl)
                            have d0_1 := ((HC.out _ HR.out).1 1 _ rfl)
                            have d0_2 := ((HC.out _ HR.out).1 2 _ rfl)
                            have d0_3 := ((HC.out _ HR.out).1 3 _ rfl)
                            have d0_4 := ((HC.out _ HR.out).1 4 _ rfl)
                            have d0_5 := ((HC.out _ HR.out).1 5 _ rfl)
                            go_wp2_with fail
                            refine (KV0.out _ HR.out).mono ?_
                            rintro r wy ⟨rfl, hby⟩
                            have HR := Lib.hid (below_next HR.out hby)
                            clear hby d0_0 d0_1 d0_2 d0_3 d0_4 d0_5
                            have d1_0 := ((HC.out _ HR.out).2 0 _ rfl)
                            have d1_1 := ((HC.out _ HR.out).2 1 _ rfl)
                            have d1_2 := ((HC.out _ HR.out).2 2 _ rfl)
                            have d1_3 := ((HC.out _ HR.out).2 3 _ rfl)
                            have d1_4 := ((HC.out _ HR.out).2 4 _ rfl)
                            have d1_5 := ((HC.out _ HR.out).2 5 _ rfl)
                            go_wp2_with fail
                            refine (KV1.out _ HR.out).mono ?_
                            rintro r wy ⟨rfl, hby⟩
                            have HR := Lib.hid (below_next HR.out hby)
                            clear hby d1_0 d1_1 d1_2 d1_3 d1_4 d1_5
                            have d0_0 := ((HC.out _ HR.out).1 0 _ rfl)
                            have d0_1 := ((HC.out _ HR.out).1 1 _ rfl)
                            have d0_2 := ((HC.out _ HR.out).1 2 _ rfl)
                            have d0_3 := ((HC.out _ HR.out).1 3 _ rfl)
                            have d0_4 := ((HC.out _ HR.out).1 4 _ rfl)
                            have d0_5 := ((HC.out _ HR.out).1 5 _ rfl)
                            go_upto_region 6 with fail
                            clear d0_0 d0_1 d0_2 d0_3 d0_4 d0_5
                            obtain ⟨G, hG⟩ : ∃ q, wy.heap.size = q := ⟨_, rfl⟩
                            rw [hG]
                            have hA := below_box wy (.cells #[.int .i64 e0.kind, .int .i64 e0.op, .int .i64 e0.int, .string e0.name, .bool e0.at_, .slice p0 N0 c0] 24)
                            have hA2 := (MapKept.heap_alloc wy (.cells #[.int .i64 e0.kind, .int .i64 e0.op, .int .i64 e0.int, .string e0.name, .bool e0.at_, .slice p0 N0 c0] 24)).1
                            have hB := below_box (wy.alloc (.cells #[.int .i64 e0.kind, .int .i64 e0.op, .int .i64 e0.int, .string e0.name, .bool e0.at_, .slice p0 N0 c0] 24)) (.cells #[.int .i64 kind, .int .i64 0, .int .i64 0, .string ⟨#[]⟩, .bool false, .slice (some ⟨G, 0, none⟩) 1 1] 24)
                            have hB2 := (MapKept.heap_alloc (wy.alloc (.cells #[.int .i64 e0.kind, .int .i64 e0.op, .int .i64 e0.int, .string e0.name, .bool e0.at_, .slice p0 N0 c0] 24)) (.cells #[.int .i64 kind, .int .i64 0, .int .i64 0, .string ⟨#[]⟩, .bool false, .slice (some ⟨G, 0, none⟩) 1 1] 24)).1
                            rw [World.size_alloc, hG] at hB2
                            rw [hG] at hA2
                            obtain ⟨w3, hw3⟩ : ∃ q, q = (wy.alloc (.cells #[.int .i64 e0.kind, .int .i64 e0.op, .int .i64 e0.int, .string e0.name, .bool e0.at_, .slice p0 N0 c0] 24)).alloc (.cells #[.int .i64 kind, .int .i64 0, .int .i64 0, .string ⟨#[]⟩, .bool false, .slice (some ⟨G, 0, none⟩) 1 1] 24) := ⟨_, rfl⟩
                            rw [← hw3] at hB hB2 ⊢
                            have hA3 := (hB.block G (lt_of_block hA2)).trans hA2
                            have HB3 := Lib.hid (below_next (below_next HR.out hA) hB)
                            have hGw : w1.heap.size ≤ G := by rw [← hG]; exact HR.out.size
                            have hsl := slE_blk hA3 [(e0, .slice p0 N0 c0)] (by simp) rfl (fun z hz => by
                              obtain rfl := List.mem_singleton.1 hz
                              exact ⟨HB0.out, HS0.out.keep HB3.out⟩)
                            have HSL := Lib.hid hsl
                            clear hA hA2 hA3 hB hsl hw3 hG
                            clear hB2 hGw hkind hop
                            go_upto_region 22 with fail
                            go_wp2_with fail
                            refine (KO.out _).mono ?_
                            rintro r wt ⟨rfl, hwt⟩
                            rw [hwt]
                            clear hwt
                            go_upto_region 26 with fail
                            have k1 : ¬ 9223372036854775807 < PA.size + 1 := by omega
                            have k2 : ¬ 9223372036854775807 < PA.size + 1 + SY.size := by omega
                            have k3 : ¬ 9223372036854775807 < PA.size + 1 + SY.size + 1 := by omega
                            have k4 : ¬ 9223372036854775807 < PA.size + 1 + SY.size + 1 + PB.size := by omega
                            have d0_0 := ((HC.out _ HB3.out).1 0 _ rfl)
                            have d0_1 := ((HC.out _ HB3.out).1 1 _ rfl)
                            have d0_2 := ((HC.out _ HB3.out).1 2 _ rfl)
                            have d0_3 := ((HC.out _ HB3.out).1 3 _ rfl)
                            have d0_4 := ((HC.out _ HB3.out).1 4 _ rfl)
                            have d0_5 := ((HC.out _ HB3.out).1 5 _ rfl)
                            have d1_0 := ((HC.out _ HB3.out).2 0 _ rfl)
                            have d1_1 := ((HC.out _ HB3.out).2 1 _ rfl)
                            have d1_2 := ((HC.out _ HB3.out).2 2 _ rfl)
                            have d1_3 := ((HC.out _ HB3.out).2 3 _ rfl)
                            have d1_4 := ((HC.out _ HB3.out).2 4 _ rfl)
                            have d1_5 := ((HC.out _ HB3.out).2 5 _ rfl)
                            refine wp_region_held_drew (S := fun W => W.cell? ⟨w.heap.size, 0, none⟩ = some (.int .i64 e0.kind) ∧ W.cell? ⟨w.heap.size, 1, none⟩ = some (.int .i64 e0.op) ∧ W.cell? ⟨w.heap.size, 2, none⟩ = some (.int .i64 e0.int) ∧ W.cell? ⟨w.heap.size, 3, none⟩ = some (.string e0.name) ∧ W.cell? ⟨w.heap.size, 4, none⟩ = some (.bool e0.at_) ∧ W.cell? ⟨w.heap.size, 5, none⟩ = some (.slice p0 N0 c0) ∧ W.cell? ⟨w.heap.size + 1, 0, none⟩ = some (.int .i64 e1.kind) ∧ W.cell? ⟨w.heap.size + 1, 1, none⟩ = some (.int .i64 e1.op) ∧ W.cell? ⟨w.heap.size + 1, 2, none⟩ = some (.int .i64 e1.int) ∧ W.cell? ⟨w.heap.size + 1, 3, none⟩ = some (.string e1.name) ∧ W.cell? ⟨w.heap.size + 1, 4, none⟩ = some (.bool e1.at_) ∧ W.cell? ⟨w.heap.size + 1, 5, none⟩ = some (.slice p1 N1 c1) ∧ Hid (Below w3.heap.size w3 W)) (by kernel_rfl) ?_ (fun hHeld => ?_)
                            · exact ⟨d0_0, d0_1, d0_2, d0_3, d0_4, d0_5, d1_0, d1_1, d1_2, d1_3, d1_4, d1_5, Lib.hid (Below.refl _ _).drew⟩
                            clear d0_0 d0_1 d0_2 d0_3 d0_4 d0_5 d1_0 d1_1 d1_2 d1_3 d1_4 d1_5
                            refine wpAnyH_take (i := 0) (oi := ⟨some 108, _, _, _, _, _⟩) (v := ?_) rfl (by kernel_rfl) (by kernel_rfl) (by kernel_rfl) (fun _ _ _ h => h) (Or.inl ⟨by rfl, ?_⟩) (by assumption) ?_
                            rotate_left
                            · (intro w hSw; (try dsimp only at hSw); go_simp; (try with_reducible rfl))
                            try simp only [Act.put, List.setIfInBounds_toArray, List.set_cons_zero, List.set_cons_succ]
                            refine wpAnyH_take (i := 1) (oi := ⟨some 109, _, _, _, _, _⟩) (v := ?_) rfl (by kernel_rfl) (by kernel_rfl) (by kernel_rfl) (fun _ _ _ h => h) (Or.inl ⟨by rfl, ?_⟩) (by assumption) ?_
                            rotate_left
                            · (intro w hSw; (try dsimp only at hSw); go_simp; (try with_reducible rfl))
                            try simp only [Act.put, List.setIfInBounds_toArray, List.set_cons_zero, List.set_cons_succ]
                            refine wpAnyH_take (i := 2) (oi := ⟨some 110, _, _, _, _, _⟩) (v := ?_) rfl (by kernel_rfl) (by kernel_rfl) (by kernel_rfl) (fun _ _ _ h => h) (Or.inl ⟨by rfl, ?_⟩) (by assumption) ?_
                            rotate_left
                            · (intro w hSw; (try dsimp only at hSw); go_simp; (try with_reducible rfl))
                            try simp only [Act.put, List.setIfInBounds_toArray, List.set_cons_zero, List.set_cons_succ]
                            refine wpAnyH_take (i := 5) (oi := ⟨some 113, _, _, _, _, _⟩) (v := ?_) rfl (by kernel_rfl) (by kernel_rfl) (by kernel_rfl) (fun _ _ _ h => h) (Or.inl ⟨by rfl, ?_⟩) (by assumption) ?_
                            rotate_left
                            · (intro w hSw; (try dsimp only at hSw); go_simp; (try with_reducible rfl))
                            try simp only [Act.put, List.setIfInBounds_toArray, List.set_cons_zero, List.set_cons_succ]
                            refine wpAnyH_take (i := 6) (oi := ⟨some 114, _, _, _, _, _⟩) (v := ?_) rfl (by kernel_rfl) (by kernel_rfl) (by kernel_rfl) (fun _ _ _ h => h) (Or.inl ⟨by rfl, ?_⟩) (by assumption) ?_
                            rotate_left
                            · (intro w hSw; (try dsimp only at hSw); go_simp; (try with_reducible rfl))
                            try simp only [Act.put, List.setIfInBounds_toArray, List.set_cons_zero, List.set_cons_succ]
                            refine wpAnyH_take (i := 9) (oi := ⟨some 117, _, _, _, _, _⟩) (v := ?_) rfl (by kernel_rfl) (by kernel_rfl) (by kernel_rfl) (fun _ _ _ h => h) (Or.inl ⟨by rfl, ?_⟩) (by assumption) ?_
                            rotate_left
                            · (intro w hSw; (try dsimp only at hSw); go_simp; (try with_reducible rfl))
                            try simp only [Act.put, List.setIfInBounds_toArray, List.set_cons_zero, List.set_cons_succ]
                            refine wpAnyH_take (i := 13) (oi := ⟨some 121, _, _, _, _, _⟩) (v := ?_) rfl (by kernel_rfl) (by kernel_rfl) (by kernel_rfl) (fun _ _ _ h => h) (Or.inl ⟨by rfl, ?_⟩) (by assumption) ?_
                            rotate_left
                            · (intro w hSw; (try dsimp only at hSw); go_simp; (try with_reducible rfl))
                            try simp only [Act.put, List.setIfInBounds_toArray, List.set_cons_zero, List.set_cons_succ]
                            refine wpAnyH_take (i := 14) (oi := ⟨some 122, _, _, _, _, _⟩) (v := ?_) rfl (by kernel_rfl) (by kernel_rfl) (by kernel_rfl) (fun _ _ _ h => h) (Or.inl ⟨by rfl, ?_⟩) (by assumption) ?_
                            rotate_left
                            · (intro w hSw; (try dsimp only at hSw); go_simp; (try with_reducible rfl))
                            try simp only [Act.put, List.setIfInBounds_toArray, List.set_cons_zero, List.set_cons_succ]
                            refine wpAnyH_ready (rs := [3]) (by kernel_rfl) (by simp) ?_
                            refine AllReadyH.cons (o := ⟨some 111, _, _, _, _, _⟩) rfl (fun K hK => ?_) AllReadyH.nil
                            go_simp
                            with_reducible refine (KB.out _ (below_next HB3.out hHeld.2.2.2.2.2.2.2.2.2.2.2.2.out)).mono ?_
                            rintro e w' ⟨g, rfl, hsl, hb⟩
                            go_wp2_with fail
                            refine hK.out _ _ ?_ (fun hHeld => ?_)
                            · exact ⟨cell_keep' hb hHeld.1, cell_keep' hb hHeld.2.1, cell_keep' hb hHeld.2.2.1, cell_keep' hb hHeld.2.2.2.1, cell_keep' hb hHeld.2.2.2.2.1, cell_keep' hb hHeld.2.2.2.2.2.1, cell_keep' hb hHeld.2.2.2.2.2.2.1, cell_keep' hb hHeld.2.2.2.2.2.2.2.1, cell_keep' hb hHeld.2.2.2.2.2.2.2.2.1, cell_keep' hb hHeld.2.2.2.2.2.2.2.2.2.1, cell_keep' hb hHeld.2.2.2.2.2.2.2.2.2.2.1, cell_keep' hb hHeld.2.2.2.2.2.2.2.2.2.2.2.1, Lib.hid (below_next hHeld.2.2.2.2.2.2.2.2.2.2.2.2.out hb)⟩
                            clear hK K
                            try simp only [Act.put, List.setIfInBounds_toArray, List.set_cons_zero, List.set_cons_succ]
                            clear hb
                            refine wpAnyH_ready (rs := [4]) (by kernel_rfl) (by simp) ?_
                            refine AllReadyH.cons (o := ⟨some 112, _, _, _, _, _⟩) rfl (fun K hK => ?_) AllReadyH.nil
                            go_simp
                            with_reducible refine (K1.out _ _ (below_next HB3.out hHeld.2.2.2.2.2.2.2.2.2.2.2.2.out) hsl).mono ?_
                            rintro e w' ⟨rfl, hb⟩
                            go_wp2_with fail
                            refine hK.out _ _ ?_ (fun hHeld => ?_)
                            · exact ⟨cell_keep' hb hHeld.1, cell_keep' hb hHeld.2.1, cell_keep' hb hHeld.2.2.1, cell_keep' hb hHeld.2.2.2.1, cell_keep' hb hHeld.2.2.2.2.1, cell_keep' hb hHeld.2.2.2.2.2.1, cell_keep' hb hHeld.2.2.2.2.2.2.1, cell_keep' hb hHeld.2.2.2.2.2.2.2.1, cell_keep' hb hHeld.2.2.2.2.2.2.2.2.1, cell_keep' hb hHeld.2.2.2.2.2.2.2.2.2.1, cell_keep' hb hHeld.2.2.2.2.2.2.2.2.2.2.1, cell_keep' hb hHeld.2.2.2.2.2.2.2.2.2.2.2.1, Lib.hid (below_next hHeld.2.2.2.2.2.2.2.2.2.2.2.2.out hb)⟩
                            clear hK K
                            try simp only [Act.put, List.setIfInBounds_toArray, List.set_cons_zero, List.set_cons_succ]
                            clear hb
                            refine wpAnyH_ready (rs := [7]) (by kernel_rfl) (by simp) ?_
                            refine AllReadyH.cons (o := ⟨some 115, _, _, _, _, _⟩) rfl (fun K hK => ?_) AllReadyH.nil
                            go_simp
                            with_reducible refine (KIA.out _ (below_next HB3.out hHeld.2.2.2.2.2.2.2.2.2.2.2.2.out)).mono ?_
                            rintro e w' ⟨rfl, hb⟩
                            go_wp2_with fail
                            refine hK.out _ _ ?_ (fun hHeld => ?_)
                            · exact ⟨cell_keep' hb hHeld.1, cell_keep' hb hHeld.2.1, cell_keep' hb hHeld.2.2.1, cell_keep' hb hHeld.2.2.2.1, cell_keep' hb hHeld.2.2.2.2.1, cell_keep' hb hHeld.2.2.2.2.2.1, cell_keep' hb hHeld.2.2.2.2.2.2.1, cell_keep' hb hHeld.2.2.2.2.2.2.2.1, cell_keep' hb hHeld.2.2.2.2.2.2.2.2.1, cell_keep' hb hHeld.2.2.2.2.2.2.2.2.2.1, cell_keep' hb hHeld.2.2.2.2.2.2.2.2.2.2.1, cell_keep' hb hHeld.2.2.2.2.2.2.2.2.2.2.2.1, Lib.hid (below_next hHeld.2.2.2.2.2.2.2.2.2.2.2.2.out hb)⟩
                            clear hK K
                            try simp only [Act.put, List.setIfInBounds_toArray, List.set_cons_zero, List.set_cons_succ]
                            clear hb
                            refine wpAnyH_take (i := 8) (oi := ⟨some 116, _, _, _, _, _⟩) (v := ?_) rfl (by kernel_rfl) (by kernel_rfl) (by kernel_rfl) (fun _ _ _ h => h) (Or.inl ⟨by rfl, ?_⟩) (by assumption) ?_
                            rotate_left
                            · (intro w hSw; (try dsimp only at hSw); go_simp; (try with_reducible rfl))
                            try simp only [Act.put, List.setIfInBounds_toArray, List.set_cons_zero, List.set_cons_succ]
                            refine wpAnyH_ready (rs := [10]) (by kernel_rfl) (by simp) ?_
                            refine AllReadyH.cons (o := ⟨some 118, _, _, _, _, _⟩) rfl (fun K hK => ?_) AllReadyH.nil
                            go_simp
                            with_reducible refine (KS.out _).mono ?_
                            rintro e w' ⟨rfl, hb⟩
                            go_wp2_with fail
                            refine hK.out _ _ ?_ (fun hHeld => ?_)
                            · exact ⟨cell_keep' hb hHeld.1, cell_keep' hb hHeld.2.1, cell_keep' hb hHeld.2.2.1, cell_keep' hb hHeld.2.2.2.1, cell_keep' hb hHeld.2.2.2.2.1, cell_keep' hb hHeld.2.2.2.2.2.1, cell_keep' hb hHeld.2.2.2.2.2.2.1, cell_keep' hb hHeld.2.2.2.2.2.2.2.1, cell_keep' hb hHeld.2.2.2.2.2.2.2.2.1, cell_keep' hb hHeld.2.2.2.2.2.2.2.2.2.1, cell_keep' hb hHeld.2.2.2.2.2.2.2.2.2.2.1, cell_keep' hb hHeld.2.2.2.2.2.2.2.2.2.2.2.1, Lib.hid (below_next hHeld.2.2.2.2.2.2.2.2.2.2.2.2.out hb)⟩
                            clear hK K
                            try simp only [Act.put, List.setIfInBounds_toArray, List.set_cons_zero, List.set_cons_succ]
                            clear hb
                            refine wpAnyH_take (i := 11) (oi := ⟨some 119, _, _, _, _, _⟩) (v := ?_) rfl (by kernel_rfl) (by kernel_rfl) (by kernel_rfl) (fun _ _ _ h => h) (Or.inl ⟨by rfl, ?_⟩) (by assumption) ?_
                            rotate_left
                            · (intro w hSw; (try dsimp only at hSw); go_simp; (try with_reducible rfl))
                            try simp only [Act.put, List.setIfInBounds_toArray, List.set_cons_zero, List.set_cons_succ]
                            refine wpAnyH_take (i := 12) (oi := ⟨some 120, _, _, _, _, _⟩) (v := ?_) rfl (by kernel_rfl) (by kernel_rfl) (by kernel_rfl) (fun _ _ _ h => h) (Or.inl ⟨by rfl, ?_⟩) (by assumption) ?_
                            rotate_left
                            · (intro w hSw; (try dsimp only at hSw); go_simp; (try with_reducible rfl))
                            try simp only [Act.put, List.setIfInBounds_toArray, List.set_cons_zero, List.set_cons_succ]
                            refine wpAnyH_ready (rs := [15]) (by kernel_rfl) (by simp) ?_
                            refine AllReadyH.cons (o := ⟨some 123, _, _, _, _, _⟩) rfl (fun K hK => ?_) AllReadyH.nil
                            go_simp
                            with_reducible refine (KIB.out _ (below_next HB3.out hHeld.2.2.2.2.2.2.2.2.2.2.2.2.out)).mono ?_
                            rintro e w' ⟨rfl, hb⟩
                            go_wp2_with fail
                            refine hK.out _ _ ?_ (fun hHeld => ?_)
                            · exact ⟨cell_keep' hb hHeld.1, cell_keep' hb hHeld.2.1, cell_keep' hb hHeld.2.2.1, cell_keep' hb hHeld.2.2.2.1, cell_keep' hb hHeld.2.2.2.2.1, cell_keep' hb hHeld.2.2.2.2.2.1, cell_keep' hb hHeld.2.2.2.2.2.2.1, cell_keep' hb hHeld.2.2.2.2.2.2.2.1, cell_keep' hb hHeld.2.2.2.2.2.2.2.2.1, cell_keep' hb hHeld.2.2.2.2.2.2.2.2.2.1, cell_keep' hb hHeld.2.2.2.2.2.2.2.2.2.2.1, cell_keep' hb hHeld.2.2.2.2.2.2.2.2.2.2.2.1, Lib.hid (below_next hHeld.2.2.2.2.2.2.2.2.2.2.2.2.out hb)⟩
                            clear hK K
                            try simp only [Act.put, List.setIfInBounds_toArray, List.set_cons_zero, List.set_cons_succ]
                            clear hb
                            refine wpAnyH_take (i := 16) (oi := ⟨some 124, _, _, _, _, _⟩) (v := ?_) rfl (by kernel_rfl) (by kernel_rfl) (by kernel_rfl) (fun _ _ _ h => h) (Or.inl ⟨by rfl, ?_⟩) (by assumption) ?_
                            rotate_left
                            · (intro w hSw; (try dsimp only at hSw); go_simp; (try with_reducible rfl))
                            try simp only [Act.put, List.setIfInBounds_toArray, List.set_cons_zero, List.set_cons_succ]
                            refine wpAnyH_take (i := 17) (oi := ⟨some 125, _, _, _, _, _⟩) (v := ?_) rfl (by kernel_rfl) (by kernel_rfl) (by kernel_rfl) (fun _ _ _ h => h) (Or.inl ⟨by rfl, ?_⟩) (by assumption) ?_
                            rotate_left
                            · (intro w hSw; (try dsimp only at hSw); go_simp; (try with_reducible rfl))
                            try simp only [Act.put, List.setIfInBounds_toArray, List.set_cons_zero, List.set_cons_succ]
                            refine wpAnyH_take (i := 18) (oi := ⟨some 8, _, _, _, _, _⟩) (v := ?_) rfl (by kernel_rfl) (by kernel_rfl) (by kernel_rfl) (fun _ _ _ h => h) (Or.inl ⟨by rfl, ?_⟩) (by assumption) ?_
                            rotate_left
                            · (intro w hSw; (try dsimp only at hSw); go_simp; (try with_reducible rfl))
                            try simp only [Act.put, List.setIfInBounds_toArray, List.set_cons_zero, List.set_cons_succ]
                            refine wpAnyH_done (by kernel_rfl) ?_ _
                            have HZ := Lib.hid hHeld.2.2.2.2.2.2.2.2.2.2.2.2.out
                            clear hHeld
                            go_wp2_with fail
                            go_ret
                            exact ⟨rfl, below_next HB1.out (below_next HB3.out HZ.out)⟩
end Go.Proofs.YtlgfickhkejdjaaGreatDoor
