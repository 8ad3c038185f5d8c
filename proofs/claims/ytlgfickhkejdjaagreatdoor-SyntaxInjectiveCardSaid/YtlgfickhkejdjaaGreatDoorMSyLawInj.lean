/-
  SyntaxInjective, walked: one text, one tree.
-/
import Derived.Test.YtlgfickhkejdjaaGreatDoorMSyLawBase
import Derived.Test.YtlgfickhkejdjaaGreatDoorMSyG
import Derived.Test.YtlgfickhkejdjaaGreatDoorMSyH
import Derived.Test.YtlgfickhkejdjaaGreatDoorMPaB
namespace Go.Proofs.YtlgfickhkejdjaaGreatDoor
open Go.RowKit Go.Maps

/-- four boxed arguments -/
theorem box4_of (w : World) (A B C D : Array Value) (tA tB tC tD : TypeId) : Below w.heap.size w ((((w.alloc (.cells A tA)).alloc (.cells B tB)).alloc (.cells C tC)).alloc (.cells D tD)) ∧
    ∀ W, Below ((((w.alloc (.cells A tA)).alloc (.cells B tB)).alloc (.cells C tC)).alloc (.cells D tD)).heap.size ((((w.alloc (.cells A tA)).alloc (.cells B tB)).alloc (.cells C tC)).alloc (.cells D tD)) W →
    (∀ (j : Nat) (u : Value), A[j]? = some u → W.cell? ⟨w.heap.size, j, none⟩ = some u) ∧ (∀ (j : Nat) (u : Value), B[j]? = some u → W.cell? ⟨w.heap.size + 1, j, none⟩ = some u) ∧
    (∀ (j : Nat) (u : Value), C[j]? = some u → W.cell? ⟨w.heap.size + 1 + 1, j, none⟩ = some u) ∧ (∀ (j : Nat) (u : Value), D[j]? = some u → W.cell? ⟨w.heap.size + 1 + 1 + 1, j, none⟩ = some u) := by
  obtain ⟨b2, h2⟩ := box2_of w A B tA tB
  have h3 := below_box ((w.alloc (.cells A tA)).alloc (.cells B tB)) (.cells C tC)
  have h4 := below_box (((w.alloc (.cells A tA)).alloc (.cells B tB)).alloc (.cells C tC)) (.cells D tD)
  refine ⟨below_next (below_next b2 h3) h4, fun W hb => ?_⟩
  obtain ⟨c1, c2⟩ := h2 W (below_next (below_next h3 h4) hb)
  refine ⟨c1, c2, fun j u hu => ?_, fun j u hu => ?_⟩
  · have h5 := box_cell ((w.alloc (.cells A tA)).alloc (.cells B tB)) C tC j u hu
    rw [World.size_alloc, World.size_alloc] at h5
    exact cell_keep' hb (cell_keep' h4 h5)
  · have h5 := box_cell (((w.alloc (.cells A tA)).alloc (.cells B tB)).alloc (.cells C tC)) D tD j u hu
    rw [World.size_alloc, World.size_alloc, World.size_alloc] at h5
    exact cell_keep' hb h5
theorem bytes_inj {a b : List UInt8} (h : (⟨a.toArray⟩ : ByteArray) = ⟨b.toArray⟩) : a = b := by
  have h2 : a.toArray = b.toArray := by injection h
  exact Array.toList_inj.2 h2
theorem inj_expr (a b : Tr.E) (ha : Tr.validE a = true) (hb : Tr.validE b = true) : (Sy.sameE a b = true ∧ (⟨(Sy.exprText a).toArray⟩ : ByteArray) = ⟨(Sy.exprText b).toArray⟩) ∨ (Sy.sameE a b = false ∧ ((⟨(Sy.exprText a).toArray⟩ : ByteArray).toList == (⟨(Sy.exprText b).toArray⟩ : ByteArray).toList) = false) := by
  cases hs : Sy.sameE a b with
  | true =>
    obtain rfl := (Sy.sameE_iff _ _).1 hs
    exact .inl ⟨rfl, rfl⟩
  | false =>
    refine .inr ⟨rfl, beq_eq_false_iff_ne.2 (list_ne fun h => ?_)⟩
    have h2 := bytes_inj h
    unfold Sy.exprText at h2
    rw [ha, hb, if_pos rfl, if_pos rfl] at h2
    have := (Sy.sameE_iff a b).2 (Pa.expr_inj a b ha hb h2)
    rw [hs] at this
    cases this
theorem inj_prog (a b : List Tr.C) (ha : Tr.validP a = true) (hb : Tr.validP b = true) : (Sy.sameCs a b = true ∧ (⟨(Sy.programText a).toArray⟩ : ByteArray) = ⟨(Sy.programText b).toArray⟩) ∨ (Sy.sameCs a b = false ∧ ((⟨(Sy.programText a).toArray⟩ : ByteArray).toList == (⟨(Sy.programText b).toArray⟩ : ByteArray).toList) = false) := by
  cases hs : Sy.sameCs a b with
  | true =>
    obtain rfl := (Sy.sameCs_iff _ _).1 hs
    exact .inl ⟨rfl, rfl⟩
  | false =>
    refine .inr ⟨rfl, beq_eq_false_iff_ne.2 (list_ne fun h => ?_)⟩
    have h2 := bytes_inj h
    unfold Sy.programText at h2
    rw [ha, hb, if_pos rfl, if_pos rfl] at h2
    have := (Sy.sameCs_iff a b).2 (Pa.prog_inj a b ha hb h2)
    rw [hs] at this
    cases this

set_option maxRecDepth 100000 in
set_option maxHeartbeats 20000000 in
theorem law_injective (e0 : Tr.E) (a0 : Value) (e1 : Tr.E) (a1 : Value) (v2 : Value) (l2 : List Tr.C) (v3 : Value) (l3 : List Tr.C) (w : World) (hE : SyEnv w) (h0 : BdE e0 ∧ SlE w a0 e0.args) (h1 : BdE e1 ∧ SlE w a1 e1.args) (h2 : SlC w v2 l2) (h3 : SlC w v3 l3) :
    Calls Tryz.prog 6 #[exprV e0 a0, exprV e1 a1, .agg #[v2], .agg #[v3]] w fun r w' => r = .returned (.bool true) ∧ Below w.heap.size w w' := by
  obtain ⟨hbd0, h0⟩ := h0
  have hi0 : Sy.i64E e0 := (Sy.i64E_eq e0).2 ⟨hbd0.int, h0.i64⟩
  obtain ⟨p0, c0, rfl, _⟩ := h0.form
  obtain ⟨N0, hN0⟩ : ∃ q, e0.args.length = q := ⟨_, rfl⟩
  rw [hN0] at h0 ⊢
  obtain ⟨hbd1, h1⟩ := h1
  have hi1 : Sy.i64E e1 := (Sy.i64E_eq e1).2 ⟨hbd1.int, h1.i64⟩
  obtain ⟨p1, c1, rfl, _⟩ := h1.form
  obtain ⟨N1, hN1⟩ : ∃ q, e1.args.length = q := ⟨_, rfl⟩
  rw [hN1] at h1 ⊢
  have hi2 := h2.i64
  obtain ⟨p2, c2, rfl⟩ := h2.form
  obtain ⟨N2, hN2⟩ : ∃ q, l2.length = q := ⟨_, rfl⟩
  rw [hN2] at h2 ⊢
  have hi3 := h3.i64
  obtain ⟨p3, c3, rfl⟩ := h3.form
  obtain ⟨N3, hN3⟩ : ∃ q, l3.length = q := ⟨_, rfl⟩
  rw [hN3] at h3 ⊢
  have hbc := box4_of w #[.int .i64 e0.kind, .int .i64 e0.op, .int .i64 e0.int, .string e0.name, .bool e0.at_, .slice p0 N0 c0] #[.int .i64 e1.kind, .int .i64 e1.op, .int .i64 e1.int, .string e1.name, .bool e1.at_, .slice p1 N1 c1] #[.slice p2 N2 c2] #[.slice p3 N3 c3] 24 24 32 32
  obtain ⟨w1, hw1⟩ : ∃ q, q = (((w.alloc (.cells #[.int .i64 e0.kind, .int .i64 e0.op, .int .i64 e0.int, .string e0.name, .bool e0.at_, .slice p0 N0 c0] 24)).alloc (.cells #[.int .i64 e1.kind, .int .i64 e1.op, .int .i64 e1.int, .string e1.name, .bool e1.at_, .slice p1 N1 c1] 24)).alloc (.cells #[.slice p2 N2 c2] 32)).alloc (.cells #[.slice p3 N3 c3] 32) := ⟨_, rfl⟩
  rw [← hw1] at hbc
  obtain ⟨hb1, hc1⟩ := hbc
  have HW1 := Lib.hid hw1
  have HB1 := Lib.hid hb1
  have HC := Lib.hid hc1
  have hez := hE.keep hb1
  have hs0 := h0.keep hb1
  have hs1 := h1.keep hb1
  have hs2 := h2.keep hb1
  have hs3 := h3.keep hb1
  have KA : Hid (∀ W, Below w1.heap.size w1 W → Calls Tryz.prog 11 #[] W fun r w' => r = .returned (.bool true) ∧ Below W.heap.size W w') := fun W hb => awake38_any W (hez.keep hb)
  have KF0 : Hid (∀ W, Below w1.heap.size w1 W → Calls Tryz.prog 12 #[.agg #[.int .i64 e0.kind, .int .i64 e0.op, .int .i64 e0.int, .string e0.name, .bool e0.at_, .slice p0 N0 c0], .int .i64 60] W fun r w' => r = .returned (.bool (Tr.fewE e0 60)) ∧ Below W.heap.size W w') := fun W hb => fewExpr_any e0 _ 60 W hbd0 (hs0.keep hb) (by decide) (by decide)
  have KF1 : Hid (∀ W, Below w1.heap.size w1 W → Calls Tryz.prog 12 #[.agg #[.int .i64 e1.kind, .int .i64 e1.op, .int .i64 e1.int, .string e1.name, .bool e1.at_, .slice p1 N1 c1], .int .i64 60] W fun r w' => r = .returned (.bool (Tr.fewE e1 60)) ∧ Below W.heap.size W w') := fun W hb => fewExpr_any e1 _ 60 W hbd1 (hs1.keep hb) (by decide) (by decide)
  have KF2 : Hid (∀ W, Below w1.heap.size w1 W → Calls Tryz.prog 19 #[.agg #[.slice p2 N2 c2], .int .i64 120] W fun r w' => r = .returned (.bool (Tr.fewP l2 120)) ∧ Below W.heap.size W w') := fun W hb => few_any _ l2 120 W (hs2.keep hb) (by decide) (by decide)
  have KF3 : Hid (∀ W, Below w1.heap.size w1 W → Calls Tryz.prog 19 #[.agg #[.slice p3 N3 c3], .int .i64 120] W fun r w' => r = .returned (.bool (Tr.fewP l3 120)) ∧ Below W.heap.size W w') := fun W hb => few_any _ l3 120 W (hs3.keep hb) (by decide) (by decide)
  have HI0 := Lib.hid (inj_expr e0 e1)
  have HI2 := Lib.hid (inj_prog l2 l3)
  obtain ⟨V0, hV0⟩ : ∃ q, Tr.validE e0 = q := ⟨_, rfl⟩
  obtain ⟨T0, hT0⟩ : ∃ q : ByteArray, ⟨(Sy.exprText e0).toArray⟩ = q := ⟨_, rfl⟩
  obtain ⟨V1, hV1⟩ : ∃ q, Tr.validE e1 = q := ⟨_, rfl⟩
  obtain ⟨T1, hT1⟩ : ∃ q : ByteArray, ⟨(Sy.exprText e1).toArray⟩ = q := ⟨_, rfl⟩
  obtain ⟨V2, hV2⟩ : ∃ q, Tr.validP l2 = q := ⟨_, rfl⟩
  obtain ⟨T2, hT2⟩ : ∃ q : ByteArray, ⟨(Sy.programText l2).toArray⟩ = q := ⟨_, rfl⟩
  obtain ⟨V3, hV3⟩ : ∃ q, Tr.validP l3 = q := ⟨_, rfl⟩
  obtain ⟨T3, hT3⟩ : ∃ q : ByteArray, ⟨(Sy.programText l3).toArray⟩ = q := ⟨_, rfl⟩
  obtain ⟨Q0, hQ0⟩ : ∃ q, Sy.sameE e0 e1 = q := ⟨_, rfl⟩
  obtain ⟨Q2, hQ2⟩ : ∃ q, Sy.sameCs l2 l3 = q := ⟨_, rfl⟩
  rw [hV0, hV1, hT0, hT1, hQ0] at HI0
  rw [hV2, hV3, hT2, hT3, hQ2] at HI2
  have hsz0 : Tr.fewE e0 60 = true → (Sy.text e0).length ≤ 100000 := fun h => (Sy.expr_small h (by decide) (by decide) hi0).2.2
  have hsz1 : Tr.fewE e1 60 = true → (Sy.text e1).length ≤ 100000 := fun h => (Sy.expr_small h (by decide) (by decide) hi1).2.2
  have hsm2 : Tr.fewP l2 120 = true → (∀ c ∈ l2, ∀ m ∈ c.methods, Tr.S.deep.deeps m.body ≤ 900000 ∧ m.params.length ≤ 1000000) ∧ Sy.sizeP l2 ≤ 1000 ∧ (Sy.progT l2).length ≤ 7000000 := fun h => by
    obtain ⟨x1, x2, x3⟩ := Sy.prog_small h (by decide) hi2
    exact ⟨fun c hc m hm => ⟨Nat.le_trans (x1 c hc m hm).1 (by decide), Nat.le_trans (x1 c hc m hm).2 (by decide)⟩, x2, x3⟩
  have hsm3 : Tr.fewP l3 120 = true → (∀ c ∈ l3, ∀ m ∈ c.methods, Tr.S.deep.deeps m.body ≤ 900000 ∧ m.params.length ≤ 1000000) ∧ Sy.sizeP l3 ≤ 1000 ∧ (Sy.progT l3).length ≤ 7000000 := fun h => by
    obtain ⟨x1, x2, x3⟩ := Sy.prog_small h (by decide) hi3
    exact ⟨fun c hc m hm => ⟨Nat.le_trans (x1 c hc m hm).1 (by decide), Nat.le_trans (x1 c hc m hm).2 (by decide)⟩, x2, x3⟩
  have KV0 : Hid (∀ W, Below w1.heap.size w1 W → Calls Tryz.prog 13 #[.agg #[.int .i64 e0.kind, .int .i64 e0.op, .int .i64 e0.int, .string e0.name, .bool e0.at_, .slice p0 N0 c0]] W fun r w' => r = .returned (.bool V0) ∧ Below W.heap.size W w') := fun W hb => by have h := validExpr_any _ e0 _ W (Nat.le_refl _) (hez.syn.lex.keep hb) hbd0 (hs0.keep hb); rw [hV0] at h; exact h
  have KT0 : Hid (Tr.fewE e0 60 = true → ∀ W, Below w1.heap.size w1 W → Calls Tryz.prog 15 #[.agg #[.int .i64 e0.kind, .int .i64 e0.op, .int .i64 e0.int, .string e0.name, .bool e0.at_, .slice p0 N0 c0]] W fun r w' => r = .returned (.string T0) ∧ Below W.heap.size W w') := fun hq W hb => by have h := syExpr_any e0 _ W (hez.keep hb) hbd0 (hs0.keep hb) (Nat.le_trans (hsz0 hq) (by decide)); rw [hT0] at h; exact h
  have KV1 : Hid (∀ W, Below w1.heap.size w1 W → Calls Tryz.prog 13 #[.agg #[.int .i64 e1.kind, .int .i64 e1.op, .int .i64 e1.int, .string e1.name, .bool e1.at_, .slice p1 N1 c1]] W fun r w' => r = .returned (.bool V1) ∧ Below W.heap.size W w') := fun W hb => by have h := validExpr_any _ e1 _ W (Nat.le_refl _) (hez.syn.lex.keep hb) hbd1 (hs1.keep hb); rw [hV1] at h; exact h
  have KT1 : Hid (Tr.fewE e1 60 = true → ∀ W, Below w1.heap.size w1 W → Calls Tryz.prog 15 #[.agg #[.int .i64 e1.kind, .int .i64 e1.op, .int .i64 e1.int, .string e1.name, .bool e1.at_, .slice p1 N1 c1]] W fun r w' => r = .returned (.string T1) ∧ Below W.heap.size W w') := fun hq W hb => by have h := syExpr_any e1 _ W (hez.keep hb) hbd1 (hs1.keep hb) (Nat.le_trans (hsz1 hq) (by decide)); rw [hT1] at h; exact h
  have KQ0 : Hid (∀ W, Below w1.heap.size w1 W → Calls Tryz.prog 17 #[.agg #[.int .i64 e0.kind, .int .i64 e0.op, .int .i64 e0.int, .string e0.name, .bool e0.at_, .slice p0 N0 c0], .agg #[.int .i64 e1.kind, .int .i64 e1.op, .int .i64 e1.int, .string e1.name, .bool e1.at_, .slice p1 N1 c1]] W fun r w' => r = .returned (.bool Q0) ∧ Below W.heap.size W w') := fun W hb => by have h := equalExpr_any _ e0 e1 _ _ W (Nat.le_refl _) (hs0.keep hb) (hs1.keep hb); rw [hQ0] at h; exact h
  have KV2 : Hid (Tr.fewP l2 120 = true → ∀ W, Below w1.heap.size w1 W → Calls Tryz.prog 20 #[.agg #[.slice p2 N2 c2]] W fun r w' => r = .returned (.bool V2) ∧ Below W.heap.size W w') := fun hq W hb => by have h := valid_any _ l2 W (hez.syn.keep hb) (Tr.fitP_of hq (by decide)) (hs2.keep hb); rw [hV2] at h; exact h
  have KT2 : Hid (Tr.fewP l2 120 = true → ∀ W, Below w1.heap.size w1 W → Calls Tryz.prog 22 #[.agg #[.slice p2 N2 c2]] W fun r w' => r = .returned (.string T2) ∧ Below W.heap.size W w') := fun hq W hb => by have h := program_any _ l2 W (hez.keep hb) (Tr.fitP_of hq (by decide)) (hs2.keep hb) (hsm2 hq).1 (Nat.le_trans (hsm2 hq).2.2 (by decide)); rw [hT2] at h; exact h
  have KV3 : Hid (Tr.fewP l3 120 = true → ∀ W, Below w1.heap.size w1 W → Calls Tryz.prog 20 #[.agg #[.slice p3 N3 c3]] W fun r w' => r = .returned (.bool V3) ∧ Below W.heap.size W w') := fun hq W hb => by have h := valid_any _ l3 W (hez.syn.keep hb) (Tr.fitP_of hq (by decide)) (hs3.keep hb); rw [hV3] at h; exact h
  have KT3 : Hid (Tr.fewP l3 120 = true → ∀ W, Below w1.heap.size w1 W → Calls Tryz.prog 22 #[.agg #[.slice p3 N3 c3]] W fun r w' => r = .returned (.string T3) ∧ Below W.heap.size W w') := fun hq W hb => by have h := program_any _ l3 W (hez.keep hb) (Tr.fitP_of hq (by decide)) (hs3.keep hb) (hsm3 hq).1 (Nat.le_trans (hsm3 hq).2.2 (by decide)); rw [hT3] at h; exact h
  have KQ2 : Hid (∀ W, Below w1.heap.size w1 W → Calls Tryz.prog 26 #[.agg #[.slice p2 N2 c2], .agg #[.slice p3 N3 c3]] W fun r w' => r = .returned (.bool Q2) ∧ Below W.heap.size W w') := fun W hb => by have h := equal_any l2 l3 _ _ W (hs2.keep hb) (hs3.keep hb); rw [hQ2] at h; exact h
  clear hE h0 hN0 hs0 hi0 hV0 hT0 h1 hN1 hs1 hi1 hV1 hT1 h2 hN2 hs2 hi2 hV2 hT2 h3 hN3 hs3 hi3 hV3 hT3 hw1 hb1 hc1 hez hQ0 hQ2 hsz0 hsz1 hsm2 hsm3 hbd0 hbd1
  unfold exprV
  cases hq0 : Tr.fewE e0 60
  · rw [hq0] at KF0
    clear hq0
    go_enter Tryz.func6, Tryz.ntmps6
    go_upto_region 1 with fail
    rw [← HW1.out]
    have HR := Lib.hid (Below.refl w1.heap.size w1)
    go_wp2_with fail
    refine (KA.out _ HR.out).mono ?_
    rintro r wy ⟨rfl, hby⟩
    have HR := Lib.hid (below_next HR.out hby)
    clear hby
    have d0_0 := ((HC.out _ HR.out).1 0 _ rfl)
    have d0_1 := ((HC.out _ HR.out).1 1 _ rfl)
    have d0_2 := ((HC.out _ HR.out).1 2 _ rfl)
    have d0_3 := ((HC.out _ HR.out).1 3 _ rfl)
    have d0_4 := ((HC.out _ HR.out).1 4 _ rfl)
    have d0_5 := ((HC.out _ HR.out).1 5 _ rfl)
    go_wp2_with fail
    refine (KF0.out _ HR.out).mono ?_
    rintro r wy ⟨rfl, hby⟩
    have HR := Lib.hid (below_next HR.out hby)
    clear hby d0_0 d0_1 d0_2 d0_3 d0_4 d0_5
    go_wp2_with fail
    go_ret
    exact ⟨rfl, below_next HB1.out HR.out⟩
  · have KT0 := Lib.hid (KT0.out hq0)
    rw [hq0] at KF0
    clear hq0
    cases hq1 : Tr.fewE e1 60
    · rw [hq1] at KF1
      clear hq1
      go_enter Tryz.func6, Tryz.ntmps6
      go_upto_region 1 with fail
      rw [← HW1.out]
      have HR := Lib.hid (Below.refl w1.heap.size w1)
      go_wp2_with fail
      refine (KA.out _ HR.out).mono ?_
      rintro r wy ⟨rfl, hby⟩
      have HR := Lib.hid (below_next HR.out hby)
      clear hby
      have d0_0 := ((HC.out _ HR.out).1 0 _ rfl)
      have d0_1 := ((HC.out _ HR.out).1 1 _ rfl)
      have d0_2 := ((HC.out _ HR.out).1 2 _ rfl)
      have d0_3 := ((HC.out _ HR.out).1 3 _ rfl)
      have d0_4 := ((HC.out _ HR.out).1 4 _ rfl)
      have d0_5 := ((HC.out _ HR.out).1 5 _ rfl)
      go_wp2_with fail
      refine (KF0.out _ HR.out).mono ?_
      rintro r wy ⟨rfl, hby⟩
      have HR := Lib.hid (below_next HR.out hby)
      clear hby d0_0 d0_1 d0_2 d0_3 d0_4 d0_5
      have d1_0 := ((HC.out _ HR.out).2.1 0 _ rfl)
      have d1_1 := ((HC.out _ HR.out).2.1 1 _ rfl)
      have d1_2 := ((HC.out _ HR.out).2.1 2 _ rfl)
      have d1_3 := ((HC.out _ HR.out).2.1 3 _ rfl)
      have d1_4 := ((HC.out _ HR.out).2.1 4 _ rfl)
      have d1_5 := ((HC.out _ HR.out).2.1 5 _ rfl)
      go_wp2_with fail
      refine (KF1.out _ HR.out).mono ?_
      rintro r wy ⟨rfl, hby⟩
      have HR := Lib.hid (below_next HR.out hby)
      clear hby d1_0 d1_1 d1_2 d1_3 d1_4 d1_5
      go_wp2_with fail
      go_ret
      exact ⟨rfl, below_next HB1.out HR.out⟩
    · have KT1 := Lib.hid (KT1.out hq1)
      rw [hq1] at KF1
      clear hq1
      cases hq2 : Tr.fewP l2 120
      · rw [hq2] at KF2
        clear hq2
        go_enter Tryz.func6, Tryz.ntmps6
        go_upto_region 1 with fail
        rw [← HW1.out]
        have HR := Lib.hid (Below.refl w1.heap.size w1)
        go_wp2_with fail
        refine (KA.out _ HR.out).mono ?_
        rintro r wy ⟨rfl, hby⟩
        have HR := Lib.hid (below_next HR.out hby)
        clear hby
        have d0_0 := ((HC.out _ HR.out).1 0 _ rfl)
        have d0_1 := ((HC.out _ HR.out).1 1 _ rfl)
        have d0_2 := ((HC.out _ HR.out).1 2 _ rfl)
        have d0_3 := ((HC.out _ HR.out).1 3 _ rfl)
        have d0_4 := ((HC.out _ HR.out).1 4 _ rfl)
        have d0_5 := ((HC.out _ HR.out).1 5 _ rfl)
        go_wp2_with fail
        refine (KF0.out _ HR.out).mono ?_
        rintro r wy ⟨rfl, hby⟩
        have HR := Lib.hid (below_next HR.out hby)
        clear hby d0_0 d0_1 d0_2 d0_3 d0_4 d0_5
        have d1_0 := ((HC.out _ HR.out).2.1 0 _ rfl)
        have d1_1 := ((HC.out _ HR.out).2.1 1 _ rfl)
        have d1_2 := ((HC.out _ HR.out).2.1 2 _ rfl)
        have d1_3 := ((HC.out _ HR.out).2.1 3 _ rfl)
        have d1_4 := ((HC.out _ HR.out).2.1 4 _ rfl)
        have d1_5 := ((HC.out _ HR.out).2.1 5 _ rfl)
        go_wp2_with fail
        refine (KF1.out _ HR.out).mono ?_
        rintro r wy ⟨rfl, hby⟩
        have HR := Lib.hid (below_next HR.out hby)
        clear hby d1_0 d1_1 d1_2 d1_3 d1_4 d1_5
        have d2_0 := ((HC.out _ HR.out).2.2.1 0 _ rfl)
        go_wp2_with fail
        refine (KF2.out _ HR.out).mono ?_
        rintro r wy ⟨rfl, hby⟩
        have HR := Lib.hid (below_next HR.out hby)
        clear hby d2_0
        go_wp2_with fail
        go_ret
        exact ⟨rfl, below_next HB1.out HR.out⟩
      · have KT2 := Lib.hid (KT2.out hq2)
        have KV2 := Lib.hid (KV2.out hq2)
        rw [hq2] at KF2
        clear hq2
        cases hq3 : Tr.fewP l3 120
        · rw [hq3] at KF3
          clear hq3
          go_enter Tryz.func6, Tryz.ntmps6
          go_upto_region 1 with fail
          rw [← HW1.out]
          have HR := Lib.hid (Below.refl w1.heap.size w1)
          go_wp2_with fail
          refine (KA.out _ HR.out).mono ?_
          rintro r wy ⟨rfl, hby⟩
          have HR := Lib.hid (below_next HR.out hby)
          clear hby
          have d0_0 := ((HC.out _ HR.out).1 0 _ rfl)
          have d0_1 := ((HC.out _ HR.out).1 1 _ rfl)
          have d0_2 := ((HC.out _ HR.out).1 2 _ rfl)
          have d0_3 := ((HC.out _ HR.out).1 3 _ rfl)
          have d0_4 := ((HC.out _ HR.out).1 4 _ rfl)
          have d0_5 := ((HC.out _ HR.out).1 5 _ rfl)
          go_wp2_with fail
          refine (KF0.out _ HR.out).mono ?_
          rintro r wy ⟨rfl, hby⟩
          have HR := Lib.hid (below_next HR.out hby)
          clear hby d0_0 d0_1 d0_2 d0_3 d0_4 d0_5
          have d1_0 := ((HC.out _ HR.out).2.1 0 _ rfl)
          have d1_1 := ((HC.out _ HR.out).2.1 1 _ rfl)
          have d1_2 := ((HC.out _ HR.out).2.1 2 _ rfl)
          have d1_3 := ((HC.out _ HR.out).2.1 3 _ rfl)
          have d1_4 := ((HC.out _ HR.out).2.1 4 _ rfl)
          have d1_5 := ((HC.out _ HR.out).2.1 5 _ rfl)
          go_wp2_with fail
          refine (KF1.out _ HR.out).mono ?_
          rintro r wy ⟨rfl, hby⟩
          have HR := Lib.hid (below_next HR.out hby)
          clear hby d1_0 d1_1 d1_2 d1_3 d1_4 d1_5
          have d2_0 := ((HC.out _ HR.out).2.2.1 0 _ rfl)
          go_wp2_with fail
          refine (KF2.out _ HR.out).mono ?_
          rintro r wy ⟨rfl, hby⟩
          have HR := Lib.hid (below_next HR.out hby)
          clear hby d2_0
          have d3_0 := ((HC.out _ HR.out).2.2.2 0 _ rfl)
          go_wp2_with fail
          refine (KF3.out _ HR.out).mono ?_
          rintro r wy ⟨rfl, hby⟩
          have HR := Lib.hid (below_next HR.out hby)
          clear hby d3_0
          go_wp2_with fail
          go_ret
          exact ⟨rfl, below_next HB1.out HR.out⟩
        · have KT3 := Lib.hid (KT3.out hq3)
          have KV3 := Lib.hid (KV3.out hq3)
          rw [hq3] at KF3
          clear hq3
          go_enter Tryz.func6, Tryz.ntmps6
          go_upto_region 1 with fail
          rw [← HW1.out]
          have HR := Lib.hid (Below.refl w1.heap.size w1)
          go_wp2_with fail
          refine (KA.out _ HR.out).mono ?_
          rintro r wy ⟨rfl, hby⟩
          have HR := Lib.hid (below_next HR.out hby)
          clear hby
          have d0_0 := ((HC.out _ HR.out).1 0 _ rfl)
          have d0_1 := ((HC.out _ HR.out).1 1 _ rfl)
          have d0_2 := ((HC.out _ HR.out).1 2 _ rfl)
          have d0_3 := ((HC.out _ HR.out).1 3 _ rfl)
          have d0_4 := ((HC.out _ HR.out).1 4 _ rfl)
          have d0_5 := ((HC.out _ HR.out).1 5 _ rfl)
          go_wp2_with fail
          refine (KF0.out _ HR.out).mono ?_
          rintro r wy ⟨rfl, hby⟩
          have HR := Lib.hid (below_next HR.out hby)
          clear hby d0_0 d0_1 d0_2 d0_3 d0_4 d0_5
          have d1_0 := ((HC.out _ HR.out).2.1 0 _ rfl)
          have d1_1 := ((HC.out _ HR.out).2.1 1 _ rfl)
          have d1_2 := ((HC.out _ HR.out).2.1 2 _ rfl)
          have d1_3 := ((HC.out _ HR.out).2.1 3 _ rfl)
          have d1_4 := ((HC.out _ HR.out).2.1 4 _ rfl)
          have d1_5 := ((HC.out _ HR.out).2.1 5 _ rfl)
          go_wp2_with fail
          refine (KF1.out _ HR.out).mono ?_
          rintro r wy ⟨rfl, hby⟩
          have HR := Lib.hid (below_next HR.out hby)
          clear hby d1_0 d1_1 d1_2 d1_3 d1_4 d1_5
          have d2_0 := ((HC.out _ HR.out).2.2.1 0 _ rfl)
          go_wp2_with fail
          refine (KF2.out _ HR.out).mono ?_
          rintro r wy ⟨rfl, hby⟩
          have HR := Lib.hid (below_next HR.out hby)
          clear hby d2_0
          have d3_0 := ((HC.out _ HR.out).2.2.2 0 _ rfl)
          go_wp2_with fail
          refine (KF3.out _ HR.out).mono ?_
          rintro r wy ⟨rfl, hby⟩
          have HR := Lib.hid (below_next HR.out hby)
          clear hby d3_0
          go_upto_region 5 with fail
          go_cut [45] (fun s45 wx => s45 = .bool false ∧ Hid (Below w1.heap.size w1 wx))
          case first =>
            cases V0
            · skip
              have d0_0 := ((HC.out _ HR.out).1 0 _ rfl)
              have d0_1 := ((HC.out _ HR.out).1 1 _ rfl)
              have d0_2 := ((HC.out _ HR.out).1 2 _ rfl)
              have d0_3 := ((HC.out _ HR.out).1 3 _ rfl)
              have d0_4 := ((HC.out _ HR.out).1 4 _ rfl)
              have d0_5 := ((HC.out _ HR.out).1 5 _ rfl)
              refine wp_region_held_drew (S := fun W => W.cell? ⟨w.heap.size, 0, none⟩ = some (.int .i64 e0.kind) ∧ W.cell? ⟨w.heap.size, 1, none⟩ = some (.int .i64 e0.op) ∧ W.cell? ⟨w.heap.size, 2, none⟩ = some (.int .i64 e0.int) ∧ W.cell? ⟨w.heap.size, 3, none⟩ = some (.string e0.name) ∧ W.cell? ⟨w.heap.size, 4, none⟩ = some (.bool e0.at_) ∧ W.cell? ⟨w.heap.size, 5, none⟩ = some (.slice p0 N0 c0) ∧ Hid (Below w1.heap.size w1 W)) (by kernel_rfl) ?_ (fun hHeld => ?_)
              · exact ⟨d0_0, d0_1, d0_2, d0_3, d0_4, d0_5, Lib.hid (HR.out).drew⟩
              clear d0_0 d0_1 d0_2 d0_3 d0_4 d0_5
              refine wpAnyH_take (i := 0) (oi := ⟨some 29, _, _, _, _, _⟩) (v := ?_) rfl (by kernel_rfl) (by kernel_rfl) (by kernel_rfl) (fun _ _ _ h => h) (Or.inl ⟨by rfl, ?_⟩) (by assumption) ?_
              rotate_left
              · (intro w hSw; (try dsimp only at hSw); go_simp; (try with_reducible rfl))
              try simp only [Act.put, List.setIfInBounds_toArray, List.set_cons_zero, List.set_cons_succ]
              refine wpAnyH_ready (rs := [1]) (by kernel_rfl) (by simp) ?_
              refine AllReadyH.cons (o := ⟨some 30, _, _, _, _, _⟩) rfl (fun K hK => ?_) AllReadyH.nil
              go_simp
              with_reducible refine (KV0.out _ hHeld.2.2.2.2.2.2.out).mono ?_
              rintro e w' ⟨rfl, hb⟩
              go_wp2_with fail
              refine hK.out _ _ ?_ (fun hHeld => ?_)
              · exact ⟨cell_keep' hb hHeld.1, cell_keep' hb hHeld.2.1, cell_keep' hb hHeld.2.2.1, cell_keep' hb hHeld.2.2.2.1, cell_keep' hb hHeld.2.2.2.2.1, cell_keep' hb hHeld.2.2.2.2.2.1, Lib.hid (below_next hHeld.2.2.2.2.2.2.out hb)⟩
              clear hK K
              try simp only [Act.put, List.setIfInBounds_toArray, List.set_cons_zero, List.set_cons_succ]
              clear hb
              refine wpAnyH_take (i := 2) (oi := ⟨some 31, _, _, _, _, _⟩) (v := ?_) rfl (by kernel_rfl) (by kernel_rfl) (by kernel_rfl) (fun _ _ _ h => h) (Or.inl ⟨by rfl, ?_⟩) (by assumption) ?_
              rotate_left
              · (intro w hSw; (try dsimp only at hSw); go_simp; (try with_reducible rfl))
              try simp only [Act.put, List.setIfInBounds_toArray, List.set_cons_zero, List.set_cons_succ]
              refine wpAnyH_take (i := 3) (oi := ⟨some 32, _, _, _, _, _⟩) (v := undef) rfl (by kernel_rfl) (by kernel_rfl) (by kernel_rfl) (fun _ _ _ h => h) (Or.inr ⟨by rfl, rfl⟩) (by assumption) ?_
              try simp only [Act.put, List.setIfInBounds_toArray, List.set_cons_zero, List.set_cons_succ]
              refine wpAnyH_take (i := 4) (oi := ⟨some 33, _, _, _, _, _⟩) (v := undef) rfl (by kernel_rfl) (by kernel_rfl) (by kernel_rfl) (fun _ _ _ h => h) (Or.inr ⟨by rfl, rfl⟩) (by assumption) ?_
              try simp only [Act.put, List.setIfInBounds_toArray, List.set_cons_zero, List.set_cons_succ]
              refine wpAnyH_take (i := 5) (oi := ⟨some 34, _, _, _, _, _⟩) (v := ?_) rfl (by kernel_rfl) (by kernel_rfl) (by kernel_rfl) (fun _ _ _ h => h) (Or.inl ⟨by rfl, ?_⟩) (by assumption) ?_
              rotate_left
              · (intro w hSw; (try dsimp only at hSw); go_simp; (try with_reducible rfl))
              try simp only [Act.put, List.setIfInBounds_toArray, List.set_cons_zero, List.set_cons_succ]
              refine wpAnyH_take (i := 6) (oi := ⟨some 35, _, _, _, _, _⟩) (v := ?_) rfl (by kernel_rfl) (by kernel_rfl) (by kernel_rfl) (fun _ _ _ h => h) (Or.inl ⟨by rfl, ?_⟩) (by assumption) ?_
              rotate_left
              · (intro w hSw; (try dsimp only at hSw); go_simp; (try with_reducible rfl))
              try simp only [Act.put, List.setIfInBounds_toArray, List.set_cons_zero, List.set_cons_succ]
              refine wpAnyH_take (i := 7) (oi := ⟨some 36, _, _, _, _, _⟩) (v := undef) rfl (by kernel_rfl) (by kernel_rfl) (by kernel_rfl) (fun _ _ _ h => h) (Or.inr ⟨by rfl, rfl⟩) (by assumption) ?_
              try simp only [Act.put, List.setIfInBounds_toArray, List.set_cons_zero, List.set_cons_succ]
              refine wpAnyH_take (i := 8) (oi := ⟨some 37, _, _, _, _, _⟩) (v := undef) rfl (by kernel_rfl) (by kernel_rfl) (by kernel_rfl) (fun _ _ _ h => h) (Or.inr ⟨by rfl, rfl⟩) (by assumption) ?_
              try simp only [Act.put, List.setIfInBounds_toArray, List.set_cons_zero, List.set_cons_succ]
              refine wpAnyH_take (i := 9) (oi := ⟨some 38, _, _, _, _, _⟩) (v := undef) rfl (by kernel_rfl) (by kernel_rfl) (by kernel_rfl) (fun _ _ _ h => h) (Or.inr ⟨by rfl, rfl⟩) (by assumption) ?_
              try simp only [Act.put, List.setIfInBounds_toArray, List.set_cons_zero, List.set_cons_succ]
              refine wpAnyH_take (i := 10) (oi := ⟨some 39, _, _, _, _, _⟩) (v := undef) rfl (by kernel_rfl) (by kernel_rfl) (by kernel_rfl) (fun _ _ _ h => h) (Or.inr ⟨by rfl, rfl⟩) (by assumption) ?_
              try simp only [Act.put, List.setIfInBounds_toArray, List.set_cons_zero, List.set_cons_succ]
              refine wpAnyH_take (i := 11) (oi := ⟨some 40, _, _, _, _, _⟩) (v := undef) rfl (by kernel_rfl) (by kernel_rfl) (by kernel_rfl) (fun _ _ _ h => h) (Or.inr ⟨by rfl, rfl⟩) (by assumption) ?_
              try simp only [Act.put, List.setIfInBounds_toArray, List.set_cons_zero, List.set_cons_succ]
              refine wpAnyH_take (i := 12) (oi := ⟨some 41, _, _, _, _, _⟩) (v := undef) rfl (by kernel_rfl) (by kernel_rfl) (by kernel_rfl) (fun _ _ _ h => h) (Or.inr ⟨by rfl, rfl⟩) (by assumption) ?_
              try simp only [Act.put, List.setIfInBounds_toArray, List.set_cons_zero, List.set_cons_succ]
              refine wpAnyH_take (i := 13) (oi := ⟨some 42, _, _, _, _, _⟩) (v := undef) rfl (by kernel_rfl) (by kernel_rfl) (by kernel_rfl) (fun _ _ _ h => h) (Or.inr ⟨by rfl, rfl⟩) (by assumption) ?_
              try simp only [Act.put, List.setIfInBounds_toArray, List.set_cons_zero, List.set_cons_succ]
              refine wpAnyH_take (i := 14) (oi := ⟨some 43, _, _, _, _, _⟩) (v := undef) rfl (by kernel_rfl) (by kernel_rfl) (by kernel_rfl) (fun _ _ _ h => h) (Or.inr ⟨by rfl, rfl⟩) (by assumption) ?_
              try simp only [Act.put, List.setIfInBounds_toArray, List.set_cons_zero, List.set_cons_succ]
              refine wpAnyH_take (i := 15) (oi := ⟨some 44, _, _, _, _, _⟩) (v := undef) rfl (by kernel_rfl) (by kernel_rfl) (by kernel_rfl) (fun _ _ _ h => h) (Or.inr ⟨by rfl, rfl⟩) (by assumption) ?_
              try simp only [Act.put, List.setIfInBounds_toArray, List.set_cons_zero, List.set_cons_succ]
              refine wpAnyH_take (i := 16) (oi := ⟨some 45, _, _, _, _, _⟩) (v := ?_) rfl (by kernel_rfl) (by kernel_rfl) (by kernel_rfl) (fun _ _ _ h => h) (Or.inl ⟨by rfl, ?_⟩) (by assumption) ?_
              rotate_left
              · (intro w hSw; (try dsimp only at hSw); go_simp; (try with_reducible rfl))
              try simp only [Act.put, List.setIfInBounds_toArray, List.set_cons_zero, List.set_cons_succ]
              refine wpAnyH_done (by kernel_rfl) ?_ _
              have HZ := Lib.hid hHeld.2.2.2.2.2.2.out
              clear hHeld
              go_wp2_with fail
              go_meet
              exact ⟨rfl, HZ⟩
            · cases V1
              · skip
                have d0_0 := ((HC.out _ HR.out).1 0 _ rfl)
                have d0_1 := ((HC.out _ HR.out).1 1 _ rfl)
                have d0_2 := ((HC.out _ HR.out).1 2 _ rfl)
                have d0_3 := ((HC.out _ HR.out).1 3 _ rfl)
                have d0_4 := ((HC.out _ HR.out).1 4 _ rfl)
                have d0_5 := ((HC.out _ HR.out).1 5 _ rfl)
                have d1_0 := ((HC.out _ HR.out).2.1 0 _ rfl)
                have d1_1 := ((HC.out _ HR.out).2.1 1 _ rfl)
                have d1_2 := ((HC.out _ HR.out).2.1 2 _ rfl)
                have d1_3 := ((HC.out _ HR.out).2.1 3 _ rfl)
                have d1_4 := ((HC.out _ HR.out).2.1 4 _ rfl)
                have d1_5 := ((HC.out _ HR.out).2.1 5 _ rfl)
                refine wp_region_held_drew (S := fun W => W.cell? ⟨w.heap.size, 0, none⟩ = some (.int .i64 e0.kind) ∧ W.cell? ⟨w.heap.size, 1, none⟩ = some (.int .i64 e0.op) ∧ W.cell? ⟨w.heap.size, 2, none⟩ = some (.int .i64 e0.int) ∧ W.cell? ⟨w.heap.size, 3, none⟩ = some (.string e0.name) ∧ W.cell? ⟨w.heap.size, 4, none⟩ = some (.bool e0.at_) ∧ W.cell? ⟨w.heap.size, 5, none⟩ = some (.slice p0 N0 c0) ∧ W.cell? ⟨w.heap.size + 1, 0, none⟩ = some (.int .i64 e1.kind) ∧ W.cell? ⟨w.heap.size + 1, 1, none⟩ = some (.int .i64 e1.op) ∧ W.cell? ⟨w.heap.size + 1, 2, none⟩ = some (.int .i64 e1.int) ∧ W.cell? ⟨w.heap.size + 1, 3, none⟩ = some (.string e1.name) ∧ W.cell? ⟨w.heap.size + 1, 4, none⟩ = some (.bool e1.at_) ∧ W.cell? ⟨w.heap.size + 1, 5, none⟩ = some (.slice p1 N1 c1) ∧ Hid (Below w1.heap.size w1 W)) (by kernel_rfl) ?_ (fun hHeld => ?_)
                · exact ⟨d0_0, d0_1, d0_2, d0_3, d0_4, d0_5, d1_0, d1_1, d1_2, d1_3, d1_4, d1_5, Lib.hid (HR.out).drew⟩
                clear d0_0 d0_1 d0_2 d0_3 d0_4 d0_5 d1_0 d1_1 d1_2 d1_3 d1_4 d1_5
                refine wpAnyH_take (i := 0) (oi := ⟨some 29, _, _, _, _, _⟩) (v := ?_) rfl (by kernel_rfl) (by kernel_rfl) (by kernel_rfl) (fun _ _ _ h => h) (Or.inl ⟨by rfl, ?_⟩) (by assumption) ?_
                rotate_left
                · (intro w hSw; (try dsimp only at hSw); go_simp; (try with_reducible rfl))
                try simp only [Act.put, List.setIfInBounds_toArray, List.set_cons_zero, List.set_cons_succ]
                refine wpAnyH_ready (rs := [1]) (by kernel_rfl) (by simp) ?_
                refine AllReadyH.cons (o := ⟨some 30, _, _, _, _, _⟩) rfl (fun K hK => ?_) AllReadyH.nil
                go_simp
                with_reducible refine (KV0.out _ hHeld.2.2.2.2.2.2.2.2.2.2.2.2.out).mono ?_
                rintro e w' ⟨rfl, hb⟩
                go_wp2_with fail
                refine hK.out _ _ ?_ (fun hHeld => ?_)
                · exact ⟨cell_keep' hb hHeld.1, cell_keep' hb hHeld.2.1, cell_keep' hb hHeld.2.2.1, cell_keep' hb hHeld.2.2.2.1, cell_keep' hb hHeld.2.2.2.2.1, cell_keep' hb hHeld.2.2.2.2.2.1, cell_keep' hb hHeld.2.2.2.2.2.2.1, cell_keep' hb hHeld.2.2.2.2.2.2.2.1, cell_keep' hb hHeld.2.2.2.2.2.2.2.2.1, cell_keep' hb hHeld.2.2.2.2.2.2.2.2.2.1, cell_keep' hb hHeld.2.2.2.2.2.2.2.2.2.2.1, cell_keep' hb hHeld.2.2.2.2.2.2.2.2.2.2.2.1, Lib.hid (below_next hHeld.2.2.2.2.2.2.2.2.2.2.2.2.out hb)⟩
                clear hK K
                try simp only [Act.put, List.setIfInBounds_toArray, List.set_cons_zero, List.set_cons_succ]
                clear hb
                refine wpAnyH_take (i := 2) (oi := ⟨some 31, _, _, _, _, _⟩) (v := ?_) rfl (by kernel_rfl) (by kernel_rfl) (by kernel_rfl) (fun _ _ _ h => h) (Or.inl ⟨by rfl, ?_⟩) (by assumption) ?_
                rotate_left
                · (intro w hSw; (try dsimp only at hSw); go_simp; (try with_reducible rfl))
                try simp only [Act.put, List.setIfInBounds_toArray, List.set_cons_zero, List.set_cons_succ]
                refine wpAnyH_take (i := 3) (oi := ⟨some 32, _, _, _, _, _⟩) (v := ?_) rfl (by kernel_rfl) (by kernel_rfl) (by kernel_rfl) (fun _ _ _ h => h) (Or.inl ⟨by rfl, ?_⟩) (by assumption) ?_
                rotate_left
                · (intro w hSw; (try dsimp only at hSw); go_simp; (try with_reducible rfl))
                try simp only [Act.put, List.setIfInBounds_toArray, List.set_cons_zero, List.set_cons_succ]
                refine wpAnyH_ready (rs := [4]) (by kernel_rfl) (by simp) ?_
                refine AllReadyH.cons (o := ⟨some 33, _, _, _, _, _⟩) rfl (fun K hK => ?_) AllReadyH.nil
                go_simp
                with_reducible refine (KV1.out _ hHeld.2.2.2.2.2.2.2.2.2.2.2.2.out).mono ?_
                rintro e w' ⟨rfl, hb⟩
                go_wp2_with fail
                refine hK.out _ _ ?_ (fun hHeld => ?_)
                · exact ⟨cell_keep' hb hHeld.1, cell_keep' hb hHeld.2.1, cell_keep' hb hHeld.2.2.1, cell_keep' hb hHeld.2.2.2.1, cell_keep' hb hHeld.2.2.2.2.1, cell_keep' hb hHeld.2.2.2.2.2.1, cell_keep' hb hHeld.2.2.2.2.2.2.1, cell_keep' hb hHeld.2.2.2.2.2.2.2.1, cell_keep' hb hHeld.2.2.2.2.2.2.2.2.1, cell_keep' hb hHeld.2.2.2.2.2.2.2.2.2.1, cell_keep' hb hHeld.2.2.2.2.2.2.2.2.2.2.1, cell_keep' hb hHeld.2.2.2.2.2.2.2.2.2.2.2.1, Lib.hid (below_next hHeld.2.2.2.2.2.2.2.2.2.2.2.2.out hb)⟩
                clear hK K
                try simp only [Act.put, List.setIfInBounds_toArray, List.set_cons_zero, List.set_cons_succ]
                clear hb
                refine wpAnyH_take (i := 5) (oi := ⟨some 34, _, _, _, _, _⟩) (v := ?_) rfl (by kernel_rfl) (by kernel_rfl) (by kernel_rfl) (fun _ _ _ h => h) (Or.inl ⟨by rfl, ?_⟩) (by assumption) ?_
                rotate_left
                · (intro w hSw; (try dsimp only at hSw); go_simp; (try with_reducible rfl))
                try simp only [Act.put, List.setIfInBounds_toArray, List.set_cons_zero, List.set_cons_succ]
                refine wpAnyH_take (i := 6) (oi := ⟨some 35, _, _, _, _, _⟩) (v := ?_) rfl (by kernel_rfl) (by kernel_rfl) (by kernel_rfl) (fun _ _ _ h => h) (Or.inl ⟨by rfl, ?_⟩) (by assumption) ?_
                rotate_left
                · (intro w hSw; (try dsimp only at hSw); go_simp; (try with_reducible rfl))
                try simp only [Act.put, List.setIfInBounds_toArray, List.set_cons_zero, List.set_cons_succ]
                refine wpAnyH_take (i := 7) (oi := ⟨some 36, _, _, _, _, _⟩) (v := undef) rfl (by kernel_rfl) (by kernel_rfl) (by kernel_rfl) (fun _ _ _ h => h) (Or.inr ⟨by rfl, rfl⟩) (by assumption) ?_
                try simp only [Act.put, List.setIfInBounds_toArray, List.set_cons_zero, List.set_cons_succ]
                refine wpAnyH_take (i := 8) (oi := ⟨some 37, _, _, _, _, _⟩) (v := undef) rfl (by kernel_rfl) (by kernel_rfl) (by kernel_rfl) (fun _ _ _ h => h) (Or.inr ⟨by rfl, rfl⟩) (by assumption) ?_
                try simp only [Act.put, List.setIfInBounds_toArray, List.set_cons_zero, List.set_cons_succ]
                refine wpAnyH_take (i := 9) (oi := ⟨some 38, _, _, _, _, _⟩) (v := undef) rfl (by kernel_rfl) (by kernel_rfl) (by kernel_rfl) (fun _ _ _ h => h) (Or.inr ⟨by rfl, rfl⟩) (by assumption) ?_
                try simp only [Act.put, List.setIfInBounds_toArray, List.set_cons_zero, List.set_cons_succ]
                refine wpAnyH_take (i := 10) (oi := ⟨some 39, _, _, _, _, _⟩) (v := undef) rfl (by kernel_rfl) (by kernel_rfl) (by kernel_rfl) (fun _ _ _ h => h) (Or.inr ⟨by rfl, rfl⟩) (by assumption) ?_
                try simp only [Act.put, List.setIfInBounds_toArray, List.set_cons_zero, List.set_cons_succ]
                refine wpAnyH_take (i := 11) (oi := ⟨some 40, _, _, _, _, _⟩) (v := undef) rfl (by kernel_rfl) (by kernel_rfl) (by kernel_rfl) (fun _ _ _ h => h) (Or.inr ⟨by rfl, rfl⟩) (by assumption) ?_
                try simp only [Act.put, List.setIfInBounds_toArray, List.set_cons_zero, List.set_cons_succ]
                refine wpAnyH_take (i := 12) (oi := ⟨some 41, _, _, _, _, _⟩) (v := undef) rfl (by kernel_rfl) (by kernel_rfl) (by kernel_rfl) (fun _ _ _ h => h) (Or.inr ⟨by rfl, rfl⟩) (by assumption) ?_
                try simp only [Act.put, List.setIfInBounds_toArray, List.set_cons_zero, List.set_cons_succ]
                refine wpAnyH_take (i := 13) (oi := ⟨some 42, _, _, _, _, _⟩) (v := undef) rfl (by kernel_rfl) (by kernel_rfl) (by kernel_rfl) (fun _ _ _ h => h) (Or.inr ⟨by rfl, rfl⟩) (by assumption) ?_
                try simp only [Act.put, List.setIfInBounds_toArray, List.set_cons_zero, List.set_cons_succ]
                refine wpAnyH_take (i := 14) (oi := ⟨some 43, _, _, _, _, _⟩) (v := undef) rfl (by kernel_rfl) (by kernel_rfl) (by kernel_rfl) (fun _ _ _ h => h) (Or.inr ⟨by rfl, rfl⟩) (by assumption) ?_
                try simp only [Act.put, List.setIfInBounds_toArray, List.set_cons_zero, List.set_cons_succ]
                refine wpAnyH_take (i := 15) (oi := ⟨some 44, _, _, _, _, _⟩) (v := undef) rfl (by kernel_rfl) (by kernel_rfl) (by kernel_rfl) (fun _ _ _ h => h) (Or.inr ⟨by rfl, rfl⟩) (by assumption) ?_
                try simp only [Act.put, List.setIfInBounds_toArray, List.set_cons_zero, List.set_cons_succ]
                refine wpAnyH_take (i := 16) (oi := ⟨some 45, _, _, _, _, _⟩) (v := ?_) rfl (by kernel_rfl) (by kernel_rfl) (by kernel_rfl) (fun _ _ _ h => h) (Or.inl ⟨by rfl, ?_⟩) (by assumption) ?_
                rotate_left
                · (intro w hSw; (try dsimp only at hSw); go_simp; (try with_reducible rfl))
                try simp only [Act.put, List.setIfInBounds_toArray, List.set_cons_zero, List.set_cons_succ]
                refine wpAnyH_done (by kernel_rfl) ?_ _
                have HZ := Lib.hid hHeld.2.2.2.2.2.2.2.2.2.2.2.2.out
                clear hHeld
                go_wp2_with fail
                go_meet
                exact ⟨rfl, HZ⟩
              · rcases HI0.out rfl rfl with ⟨hq, hT⟩ | ⟨hq, hT⟩
                · subst hq
                  rw [← hT] at KT1
                  clear hT
                  have d0_0 := ((HC.out _ HR.out).1 0 _ rfl)
                  have d0_1 := ((HC.out _ HR.out).1 1 _ rfl)
                  have d0_2 := ((HC.out _ HR.out).1 2 _ rfl)
                  have d0_3 := ((HC.out _ HR.out).1 3 _ rfl)
                  have d0_4 := ((HC.out _ HR.out).1 4 _ rfl)
                  have d0_5 := ((HC.out _ HR.out).1 5 _ rfl)
                  have d1_0 := ((HC.out _ HR.out).2.1 0 _ rfl)
                  have d1_1 := ((HC.out _ HR.out).2.1 1 _ rfl)
                  have d1_2 := ((HC.out _ HR.out).2.1 2 _ rfl)
                  have d1_3 := ((HC.out _ HR.out).2.1 3 _ rfl)
                  have d1_4 := ((HC.out _ HR.out).2.1 4 _ rfl)
                  have d1_5 := ((HC.out _ HR.out).2.1 5 _ rfl)
                  refine wp_region_held_drew (S := fun W => W.cell? ⟨w.heap.size, 0, none⟩ = some (.int .i64 e0.kind) ∧ W.cell? ⟨w.heap.size, 1, none⟩ = some (.int .i64 e0.op) ∧ W.cell? ⟨w.heap.size, 2, none⟩ = some (.int .i64 e0.int) ∧ W.cell? ⟨w.heap.size, 3, none⟩ = some (.string e0.name) ∧ W.cell? ⟨w.heap.size, 4, none⟩ = some (.bool e0.at_) ∧ W.cell? ⟨w.heap.size, 5, none⟩ = some (.slice p0 N0 c0) ∧ W.cell? ⟨w.heap.size + 1, 0, none⟩ = some (.int .i64 e1.kind) ∧ W.cell? ⟨w.heap.size + 1, 1, none⟩ = some (.int .i64 e1.op) ∧ W.cell? ⟨w.heap.size + 1, 2, none⟩ = some (.int .i64 e1.int) ∧ W.cell? ⟨w.heap.size + 1, 3, none⟩ = some (.string e1.name) ∧ W.cell? ⟨w.heap.size + 1, 4, none⟩ = some (.bool e1.at_) ∧ W.cell? ⟨w.heap.size + 1, 5, none⟩ = some (.slice p1 N1 c1) ∧ Hid (Below w1.heap.size w1 W)) (by kernel_rfl) ?_ (fun hHeld => ?_)
                  · exact ⟨d0_0, d0_1, d0_2, d0_3, d0_4, d0_5, d1_0, d1_1, d1_2, d1_3, d1_4, d1_5, Lib.hid (HR.out).drew⟩
                  clear d0_0 d0_1 d0_2 d0_3 d0_4 d0_5 d1_0 d1_1 d1_2 d1_3 d1_4 d1_5
                  refine wpAnyH_take (i := 0) (oi := ⟨some 29, _, _, _, _, _⟩) (v := ?_) rfl (by kernel_rfl) (by kernel_rfl) (by kernel_rfl) (fun _ _ _ h => h) (Or.inl ⟨by rfl, ?_⟩) (by assumption) ?_
                  rotate_left
                  · (intro w hSw; (try dsimp only at hSw); go_simp; (try with_reducible rfl))
                  try simp only [Act.put, List.setIfInBounds_toArray, List.set_cons_zero, List.set_cons_succ]
                  refine wpAnyH_ready (rs := [1]) (by kernel_rfl) (by simp) ?_
                  refine AllReadyH.cons (o := ⟨some 30, _, _, _, _, _⟩) rfl (fun K hK => ?_) AllReadyH.nil
                  go_simp
                  with_reducible refine (KV0.out _ hHeld.2.2.2.2.2.2.2.2.2.2.2.2.out).mono ?_
                  rintro e w' ⟨rfl, hb⟩
                  go_wp2_with fail
                  refine hK.out _ _ ?_ (fun hHeld => ?_)
                  · exact ⟨cell_keep' hb hHeld.1, cell_keep' hb hHeld.2.1, cell_keep' hb hHeld.2.2.1, cell_keep' hb hHeld.2.2.2.1, cell_keep' hb hHeld.2.2.2.2.1, cell_keep' hb hHeld.2.2.2.2.2.1, cell_keep' hb hHeld.2.2.2.2.2.2.1, cell_keep' hb hHeld.2.2.2.2.2.2.2.1, cell_keep' hb hHeld.2.2.2.2.2.2.2.2.1, cell_keep' hb hHeld.2.2.2.2.2.2.2.2.2.1, cell_keep' hb hHeld.2.2.2.2.2.2.2.2.2.2.1, cell_keep' hb hHeld.2.2.2.2.2.2.2.2.2.2.2.1, Lib.hid (below_next hHeld.2.2.2.2.2.2.2.2.2.2.2.2.out hb)⟩
                  clear hK K
                  try simp only [Act.put, List.setIfInBounds_toArray, List.set_cons_zero, List.set_cons_succ]
                  clear hb
                  refine wpAnyH_take (i := 2) (oi := ⟨some 31, _, _, _, _, _⟩) (v := ?_) rfl (by kernel_rfl) (by kernel_rfl) (by kernel_rfl) (fun _ _ _ h => h) (Or.inl ⟨by rfl, ?_⟩) (by assumption) ?_
                  rotate_left
                  · (intro w hSw; (try dsimp only at hSw); go_simp; (try with_reducible rfl))
                  try simp only [Act.put, List.setIfInBounds_toArray, List.set_cons_zero, List.set_cons_succ]
                  refine wpAnyH_take (i := 3) (oi := ⟨some 32, _, _, _, _, _⟩) (v := ?_) rfl (by kernel_rfl) (by kernel_rfl) (by kernel_rfl) (fun _ _ _ h => h) (Or.inl ⟨by rfl, ?_⟩) (by assumption) ?_
                  rotate_left
                  · (intro w hSw; (try dsimp only at hSw); go_simp; (try with_reducible rfl))
                  try simp only [Act.put, List.setIfInBounds_toArray, List.set_cons_zero, List.set_cons_succ]
                  refine wpAnyH_ready (rs := [4]) (by kernel_rfl) (by simp) ?_
                  refine AllReadyH.cons (o := ⟨some 33, _, _, _, _, _⟩) rfl (fun K hK => ?_) AllReadyH.nil
                  go_simp
                  with_reducible refine (KV1.out _ hHeld.2.2.2.2.2.2.2.2.2.2.2.2.out).mono ?_
                  rintro e w' ⟨rfl, hb⟩
                  go_wp2_with fail
                  refine hK.out _ _ ?_ (fun hHeld => ?_)
                  · exact ⟨cell_keep' hb hHeld.1, cell_keep' hb hHeld.2.1, cell_keep' hb hHeld.2.2.1, cell_keep' hb hHeld.2.2.2.1, cell_keep' hb hHeld.2.2.2.2.1, cell_keep' hb hHeld.2.2.2.2.2.1, cell_keep' hb hHeld.2.2.2.2.2.2.1, cell_keep' hb hHeld.2.2.2.2.2.2.2.1, cell_keep' hb hHeld.2.2.2.2.2.2.2.2.1, cell_keep' hb hHeld.2.2.2.2.2.2.2.2.2.1, cell_keep' hb hHeld.2.2.2.2.2.2.2.2.2.2.1, cell_keep' hb hHeld.2.2.2.2.2.2.2.2.2.2.2.1, Lib.hid (below_next hHeld.2.2.2.2.2.2.2.2.2.2.2.2.out hb)⟩
                  clear hK K
                  try simp only [Act.put, List.setIfInBounds_toArray, List.set_cons_zero, List.set_cons_succ]
                  clear hb
                  refine wpAnyH_take (i := 5) (oi := ⟨some 34, _, _, _, _, _⟩) (v := ?_) rfl (by kernel_rfl) (by kernel_rfl) (by kernel_rfl) (fun _ _ _ h => h) (Or.inl ⟨by rfl, ?_⟩) (by assumption) ?_
                  rotate_left
                  · (intro w hSw; (try dsimp only at hSw); go_simp; (try with_reducible rfl))
                  try simp only [Act.put, List.setIfInBounds_toArray, List.set_cons_zero, List.set_cons_succ]
                  refine wpAnyH_take (i := 6) (oi := ⟨some 35, _, _, _, _, _⟩) (v := ?_) rfl (by kernel_rfl) (by kernel_rfl) (by kernel_rfl) (fun _ _ _ h => h) (Or.inl ⟨by rfl, ?_⟩) (by assumption) ?_
                  rotate_left
                  · (intro w hSw; (try dsimp only at hSw); go_simp; (try with_reducible rfl))
                  try simp only [Act.put, List.setIfInBounds_toArray, List.set_cons_zero, List.set_cons_succ]
                  refine wpAnyH_take (i := 7) (oi := ⟨some 36, _, _, _, _, _⟩) (v := ?_) rfl (by kernel_rfl) (by kernel_rfl) (by kernel_rfl) (fun _ _ _ h => h) (Or.inl ⟨by rfl, ?_⟩) (by assumption) ?_
                  rotate_left
                  · (intro w hSw; (try dsimp only at hSw); go_simp; (try with_reducible rfl))
                  try simp only [Act.put, List.setIfInBounds_toArray, List.set_cons_zero, List.set_cons_succ]
                  refine wpAnyH_take (i := 9) (oi := ⟨some 38, _, _, _, _, _⟩) (v := ?_) rfl (by kernel_rfl) (by kernel_rfl) (by kernel_rfl) (fun _ _ _ h => h) (Or.inl ⟨by rfl, ?_⟩) (by assumption) ?_
                  rotate_left
                  · (intro w hSw; (try dsimp only at hSw); go_simp; (try with_reducible rfl))
                  try simp only [Act.put, List.setIfInBounds_toArray, List.set_cons_zero, List.set_cons_succ]
                  refine wpAnyH_take (i := 12) (oi := ⟨some 41, _, _, _, _, _⟩) (v := ?_) rfl (by kernel_rfl) (by kernel_rfl) (by kernel_rfl) (fun _ _ _ h => h) (Or.inl ⟨by rfl, ?_⟩) (by assumption) ?_
                  rotate_left
                  · (intro w hSw; (try dsimp only at hSw); go_simp; (try with_reducible rfl))
                  try simp only [Act.put, List.setIfInBounds_toArray, List.set_cons_zero, List.set_cons_succ]
                  refine wpAnyH_take (i := 13) (oi := ⟨some 42, _, _, _, _, _⟩) (v := ?_) rfl (by kernel_rfl) (by kernel_rfl) (by kernel_rfl) (fun _ _ _ h => h) (Or.inl ⟨by rfl, ?_⟩) (by assumption) ?_
                  rotate_left
                  · (intro w hSw; (try dsimp only at hSw); go_simp; (try with_reducible rfl))
                  try simp only [Act.put, List.setIfInBounds_toArray, List.set_cons_zero, List.set_cons_succ]
                  refine wpAnyH_ready (rs := [8]) (by kernel_rfl) (by simp) ?_
                  refine AllReadyH.cons (o := ⟨some 37, _, _, _, _, _⟩) rfl (fun K hK => ?_) AllReadyH.nil
                  go_simp
                  with_reducible refine (KT0.out _ hHeld.2.2.2.2.2.2.2.2.2.2.2.2.out).mono ?_
                  rintro e w' ⟨rfl, hb⟩
                  go_wp2_with fail
                  refine hK.out _ _ ?_ (fun hHeld => ?_)
                  · exact ⟨cell_keep' hb hHeld.1, cell_keep' hb hHeld.2.1, cell_keep' hb hHeld.2.2.1, cell_keep' hb hHeld.2.2.2.1, cell_keep' hb hHeld.2.2.2.2.1, cell_keep' hb hHeld.2.2.2.2.2.1, cell_keep' hb hHeld.2.2.2.2.2.2.1, cell_keep' hb hHeld.2.2.2.2.2.2.2.1, cell_keep' hb hHeld.2.2.2.2.2.2.2.2.1, cell_keep' hb hHeld.2.2.2.2.2.2.2.2.2.1, cell_keep' hb hHeld.2.2.2.2.2.2.2.2.2.2.1, cell_keep' hb hHeld.2.2.2.2.2.2.2.2.2.2.2.1, Lib.hid (below_next hHeld.2.2.2.2.2.2.2.2.2.2.2.2.out hb)⟩
                  clear hK K
                  try simp only [Act.put, List.setIfInBounds_toArray, List.set_cons_zero, List.set_cons_succ]
                  clear hb
                  refine wpAnyH_ready (rs := [10]) (by kernel_rfl) (by simp) ?_
                  refine AllReadyH.cons (o := ⟨some 39, _, _, _, _, _⟩) rfl (fun K hK => ?_) AllReadyH.nil
                  go_simp
                  with_reducible refine (KT1.out _ hHeld.2.2.2.2.2.2.2.2.2.2.2.2.out).mono ?_
                  rintro e w' ⟨rfl, hb⟩
                  go_wp2_with fail
                  refine hK.out _ _ ?_ (fun hHeld => ?_)
                  · exact ⟨cell_keep' hb hHeld.1, cell_keep' hb hHeld.2.1, cell_keep' hb hHeld.2.2.1, cell_keep' hb hHeld.2.2.2.1, cell_keep' hb hHeld.2.2.2.2.1, cell_keep' hb hHeld.2.2.2.2.2.1, cell_keep' hb hHeld.2.2.2.2.2.2.1, cell_keep' hb hHeld.2.2.2.2.2.2.2.1, cell_keep' hb hHeld.2.2.2.2.2.2.2.2.1, cell_keep' hb hHeld.2.2.2.2.2.2.2.2.2.1, cell_keep' hb hHeld.2.2.2.2.2.2.2.2.2.2.1, cell_keep' hb hHeld.2.2.2.2.2.2.2.2.2.2.2.1, Lib.hid (below_next hHeld.2.2.2.2.2.2.2.2.2.2.2.2.out hb)⟩
                  clear hK K
                  try simp only [Act.put, List.setIfInBounds_toArray, List.set_cons_zero, List.set_cons_succ]
                  clear hb
                  refine wpAnyH_take (i := 11) (oi := ⟨some 40, _, _, _, _, _⟩) (v := ?_) rfl (by kernel_rfl) (by kernel_rfl) (by kernel_rfl) (fun _ _ _ h => h) (Or.inl ⟨by rfl, ?_⟩) (by assumption) ?_
                  rotate_left
                  · (intro w hSw; (try dsimp only at hSw); go_simp; (try with_reducible rfl))
                  try simp only [Act.put, List.setIfInBounds_toArray, List.set_cons_zero, List.set_cons_succ]
                  refine wpAnyH_ready (rs := [14]) (by kernel_rfl) (by simp) ?_
                  refine AllReadyH.cons (o := ⟨some 43, _, _, _, _, _⟩) rfl (fun K hK => ?_) AllReadyH.nil
                  go_simp
                  with_reducible refine (KQ0.out _ hHeld.2.2.2.2.2.2.2.2.2.2.2.2.out).mono ?_
                  rintro e w' ⟨rfl, hb⟩
                  go_wp2_with fail
                  refine hK.out _ _ ?_ (fun hHeld => ?_)
                  · exact ⟨cell_keep' hb hHeld.1, cell_keep' hb hHeld.2.1, cell_keep' hb hHeld.2.2.1, cell_keep' hb hHeld.2.2.2.1, cell_keep' hb hHeld.2.2.2.2.1, cell_keep' hb hHeld.2.2.2.2.2.1, cell_keep' hb hHeld.2.2.2.2.2.2.1, cell_keep' hb hHeld.2.2.2.2.2.2.2.1, cell_keep' hb hHeld.2.2.2.2.2.2.2.2.1, cell_keep' hb hHeld.2.2.2.2.2.2.2.2.2.1, cell_keep' hb hHeld.2.2.2.2.2.2.2.2.2.2.1, cell_keep' hb hHeld.2.2.2.2.2.2.2.2.2.2.2.1, Lib.hid (below_next hHeld.2.2.2.2.2.2.2.2.2.2.2.2.out hb)⟩
                  clear hK K
                  try simp only [Act.put, List.setIfInBounds_toArray, List.set_cons_zero, List.set_cons_succ]
                  clear hb
                  refine wpAnyH_take (i := 15) (oi := ⟨some 44, _, _, _, _, _⟩) (v := ?_) rfl (by kernel_rfl) (by kernel_rfl) (by kernel_rfl) (fun _ _ _ h => h) (Or.inl ⟨by rfl, ?_⟩) (by assumption) ?_
                  rotate_left
                  · (intro w hSw; (try dsimp only at hSw); go_simp; (try with_reducible rfl))
                  try simp only [Act.put, List.setIfInBounds_toArray, List.set_cons_zero, List.set_cons_succ]
                  refine wpAnyH_take (i := 16) (oi := ⟨some 45, _, _, _, _, _⟩) (v := ?_) rfl (by kernel_rfl) (by kernel_rfl) (by kernel_rfl) (fun _ _ _ h => h) (Or.inl ⟨by rfl, ?_⟩) (by assumption) ?_
                  rotate_left
                  · (intro w hSw; (try dsimp only at hSw); go_simp; (try with_reducible rfl))
                  try simp only [Act.put, List.setIfInBounds_toArray, List.set_cons_zero, List.set_cons_succ]
                  refine wpAnyH_done (by kernel_rfl) ?_ _
                  have HZ := Lib.hid hHeld.2.2.2.2.2.2.2.2.2.2.2.2.out
                  clear hHeld
                  go_wp2_with fail
                  go_meet
                  exact ⟨rfl, HZ⟩
                · subst hq
                  have d0_0 := ((HC.out _ HR.out).1 0 _ rfl)
                  have d0_1 := ((HC.out _ HR.out).1 1 _ rfl)
                  have d0_2 := ((HC.out _ HR.out).1 2 _ rfl)
                  have d0_3 := ((HC.out _ HR.out).1 3 _ rfl)
                  have d0_4 := ((HC.out _ HR.out).1 4 _ rfl)
                  have d0_5 := ((HC.out _ HR.out).1 5 _ rfl)
                  have d1_0 := ((HC.out _ HR.out).2.1 0 _ rfl)
                  have d1_1 := ((HC.out _ HR.out).2.1 1 _ rfl)
                  have d1_2 := ((HC.out _ HR.out).2.1 2 _ rfl)
                  have d1_3 := ((HC.out _ HR.out).2.1 3 _ rfl)
                  have d1_4 := ((HC.out _ HR.out).2.1 4 _ rfl)
                  have d1_5 := ((HC.out _ HR.out).2.1 5 _ rfl)
                  refine wp_region_held_drew (S := fun W => W.cell? ⟨w.heap.size, 0, none⟩ = some (.int .i64 e0.kind) ∧ W.cell? ⟨w.heap.size, 1, none⟩ = some (.int .i64 e0.op) ∧ W.cell? ⟨w.heap.size, 2, none⟩ = some (.int .i64 e0.int) ∧ W.cell? ⟨w.heap.size, 3, none⟩ = some (.string e0.name) ∧ W.cell? ⟨w.heap.size, 4, none⟩ = some (.bool e0.at_) ∧ W.cell? ⟨w.heap.size, 5, none⟩ = some (.slice p0 N0 c0) ∧ W.cell? ⟨w.heap.size + 1, 0, none⟩ = some (.int .i64 e1.kind) ∧ W.cell? ⟨w.heap.size + 1, 1, none⟩ = some (.int .i64 e1.op) ∧ W.cell? ⟨w.heap.size + 1, 2, none⟩ = some (.int .i64 e1.int) ∧ W.cell? ⟨w.heap.size + 1, 3, none⟩ = some (.string e1.name) ∧ W.cell? ⟨w.heap.size + 1, 4, none⟩ = some (.bool e1.at_) ∧ W.cell? ⟨w.heap.size + 1, 5, none⟩ = some (.slice p1 N1 c1) ∧ Hid (Below w1.heap.size w1 W)) (by kernel_rfl) ?_ (fun hHeld => ?_)
                  · exact ⟨d0_0, d0_1, d0_2, d0_3, d0_4, d0_5, d1_0, d1_1, d1_2, d1_3, d1_4, d1_5, Lib.hid (HR.out).drew⟩
                  clear d0_0 d0_1 d0_2 d0_3 d0_4 d0_5 d1_0 d1_1 d1_2 d1_3 d1_4 d1_5
                  refine wpAnyH_take (i := 0) (oi := ⟨some 29, _, _, _, _, _⟩) (v := ?_) rfl (by kernel_rfl) (by kernel_rfl) (by kernel_rfl) (fun _ _ _ h => h) (Or.inl ⟨by rfl, ?_⟩) (by assumption) ?_
                  rotate_left
                  · (intro w hSw; (try dsimp only at hSw); go_simp; (try with_reducible rfl))
                  try simp only [Act.put, List.setIfInBounds_toArray, List.set_cons_zero, List.set_cons_succ]
                  refine wpAnyH_ready (rs := [1]) (by kernel_rfl) (by simp) ?_
                  refine AllReadyH.cons (o := ⟨some 30, _, _, _, _, _⟩) rfl (fun K hK => ?_) AllReadyH.nil
                  go_simp
                  with_reducible refine (KV0.out _ hHeld.2.2.2.2.2.2.2.2.2.2.2.2.out).mono ?_
                  rintro e w' ⟨rfl, hb⟩
                  go_wp2_with fail
                  refine hK.out _ _ ?_ (fun hHeld => ?_)
                  · exact ⟨cell_keep' hb hHeld.1, cell_keep' hb hHeld.2.1, cell_keep' hb hHeld.2.2.1, cell_keep' hb hHeld.2.2.2.1, cell_keep' hb hHeld.2.2.2.2.1, cell_keep' hb hHeld.2.2.2.2.2.1, cell_keep' hb hHeld.2.2.2.2.2.2.1, cell_keep' hb hHeld.2.2.2.2.2.2.2.1, cell_keep' hb hHeld.2.2.2.2.2.2.2.2.1, cell_keep' hb hHeld.2.2.2.2.2.2.2.2.2.1, cell_keep' hb hHeld.2.2.2.2.2.2.2.2.2.2.1, cell_keep' hb hHeld.2.2.2.2.2.2.2.2.2.2.2.1, Lib.hid (below_next hHeld.2.2.2.2.2.2.2.2.2.2.2.2.out hb)⟩
                  clear hK K
                  try simp only [Act.put, List.setIfInBounds_toArray, List.set_cons_zero, List.set_cons_succ]
                  clear hb
                  refine wpAnyH_take (i := 2) (oi := ⟨some 31, _, _, _, _, _⟩) (v := ?_) rfl (by kernel_rfl) (by kernel_rfl) (by kernel_rfl) (fun _ _ _ h => h) (Or.inl ⟨by rfl, ?_⟩) (by assumption) ?_
                  rotate_left
                  · (intro w hSw; (try dsimp only at hSw); go_simp; (try with_reducible rfl))
                  try simp only [Act.put, List.setIfInBounds_toArray, List.set_cons_zero, List.set_cons_succ]
                  refine wpAnyH_take (i := 3) (oi := ⟨some 32, _, _, _, _, _⟩) (v := ?_) rfl (by kernel_rfl) (by kernel_rfl) (by kernel_rfl) (fun _ _ _ h => h) (Or.inl ⟨by rfl, ?_⟩) (by assumption) ?_
                  rotate_left
                  · (intro w hSw; (try dsimp only at hSw); go_simp; (try with_reducible rfl))
                  try simp only [Act.put, List.setIfInBounds_toArray, List.set_cons_zero, List.set_cons_succ]
                  refine wpAnyH_ready (rs := [4]) (by kernel_rfl) (by simp) ?_
                  refine AllReadyH.cons (o := ⟨some 33, _, _, _, _, _⟩) rfl (fun K hK => ?_) AllReadyH.nil
                  go_simp
                  with_reducible refine (KV1.out _ hHeld.2.2.2.2.2.2.2.2.2.2.2.2.out).mono ?_
                  rintro e w' ⟨rfl, hb⟩
                  go_wp2_with fail
                  refine hK.out _ _ ?_ (fun hHeld => ?_)
                  · exact ⟨cell_keep' hb hHeld.1, cell_keep' hb hHeld.2.1, cell_keep' hb hHeld.2.2.1, cell_keep' hb hHeld.2.2.2.1, cell_keep' hb hHeld.2.2.2.2.1, cell_keep' hb hHeld.2.2.2.2.2.1, cell_keep' hb hHeld.2.2.2.2.2.2.1, cell_keep' hb hHeld.2.2.2.2.2.2.2.1, cell_keep' hb hHeld.2.2.2.2.2.2.2.2.1, cell_keep' hb hHeld.2.2.2.2.2.2.2.2.2.1, cell_keep' hb hHeld.2.2.2.2.2.2.2.2.2.2.1, cell_keep' hb hHeld.2.2.2.2.2.2.2.2.2.2.2.1, Lib.hid (below_next hHeld.2.2.2.2.2.2.2.2.2.2.2.2.out hb)⟩
                  clear hK K
                  try simp only [Act.put, List.setIfInBounds_toArray, List.set_cons_zero, List.set_cons_succ]
                  clear hb
                  refine wpAnyH_take (i := 5) (oi := ⟨some 34, _, _, _, _, _⟩) (v := ?_) rfl (by kernel_rfl) (by kernel_rfl) (by kernel_rfl) (fun _ _ _ h => h) (Or.inl ⟨by rfl, ?_⟩) (by assumption) ?_
                  rotate_left
                  · (intro w hSw; (try dsimp only at hSw); go_simp; (try with_reducible rfl))
                  try simp only [Act.put, List.setIfInBounds_toArray, List.set_cons_zero, List.set_cons_succ]
                  refine wpAnyH_take (i := 6) (oi := ⟨some 35, _, _, _, _, _⟩) (v := ?_) rfl (by kernel_rfl) (by kernel_rfl) (by kernel_rfl) (fun _ _ _ h => h) (Or.inl ⟨by rfl, ?_⟩) (by assumption) ?_
                  rotate_left
                  · (intro w hSw; (try dsimp only at hSw); go_simp; (try with_reducible rfl))
                  try simp only [Act.put, List.setIfInBounds_toArray, List.set_cons_zero, List.set_cons_succ]
                  refine wpAnyH_take (i := 7) (oi := ⟨some 36, _, _, _, _, _⟩) (v := ?_) rfl (by kernel_rfl) (by kernel_rfl) (by kernel_rfl) (fun _ _ _ h => h) (Or.inl ⟨by rfl, ?_⟩) (by assumption) ?_
                  rotate_left
                  · (intro w hSw; (try dsimp only at hSw); go_simp; (try with_reducible rfl))
                  try simp only [Act.put, List.setIfInBounds_toArray, List.set_cons_zero, List.set_cons_succ]
                  refine wpAnyH_take (i := 9) (oi := ⟨some 38, _, _, _, _, _⟩) (v := ?_) rfl (by kernel_rfl) (by kernel_rfl) (by kernel_rfl) (fun _ _ _ h => h) (Or.inl ⟨by rfl, ?_⟩) (by assumption) ?_
                  rotate_left
                  · (intro w hSw; (try dsimp only at hSw); go_simp; (try with_reducible rfl))
                  try simp only [Act.put, List.setIfInBounds_toArray, List.set_cons_zero, List.set_cons_succ]
                  refine wpAnyH_take (i := 12) (oi := ⟨some 41, _, _, _, _, _⟩) (v := ?_) rfl (by kernel_rfl) (by kernel_rfl) (by kernel_rfl) (fun _ _ _ h => h) (Or.inl ⟨by rfl, ?_⟩) (by assumption) ?_
                  rotate_left
                  · (intro w hSw; (try dsimp only at hSw); go_simp; (try with_reducible rfl))
                  try simp only [Act.put, List.setIfInBounds_toArray, List.set_cons_zero, List.set_cons_succ]
                  refine wpAnyH_take (i := 13) (oi := ⟨some 42, _, _, _, _, _⟩) (v := ?_) rfl (by kernel_rfl) (by kernel_rfl) (by kernel_rfl) (fun _ _ _ h => h) (Or.inl ⟨by rfl, ?_⟩) (by assumption) ?_
                  rotate_left
                  · (intro w hSw; (try dsimp only at hSw); go_simp; (try with_reducible rfl))
                  try simp only [Act.put, List.setIfInBounds_toArray, List.set_cons_zero, List.set_cons_succ]
                  refine wpAnyH_ready (rs := [8]) (by kernel_rfl) (by simp) ?_
                  refine AllReadyH.cons (o := ⟨some 37, _, _, _, _, _⟩) rfl (fun K hK => ?_) AllReadyH.nil
                  go_simp
                  with_reducible refine (KT0.out _ hHeld.2.2.2.2.2.2.2.2.2.2.2.2.out).mono ?_
                  rintro e w' ⟨rfl, hb⟩
                  go_wp2_with fail
                  refine hK.out _ _ ?_ (fun hHeld => ?_)
                  · exact ⟨cell_keep' hb hHeld.1, cell_keep' hb hHeld.2.1, cell_keep' hb hHeld.2.2.1, cell_keep' hb hHeld.2.2.2.1, cell_keep' hb hHeld.2.2.2.2.1, cell_keep' hb hHeld.2.2.2.2.2.1, cell_keep' hb hHeld.2.2.2.2.2.2.1, cell_keep' hb hHeld.2.2.2.2.2.2.2.1, cell_keep' hb hHeld.2.2.2.2.2.2.2.2.1, cell_keep' hb hHeld.2.2.2.2.2.2.2.2.2.1, cell_keep' hb hHeld.2.2.2.2.2.2.2.2.2.2.1, cell_keep' hb hHeld.2.2.2.2.2.2.2.2.2.2.2.1, Lib.hid (below_next hHeld.2.2.2.2.2.2.2.2.2.2.2.2.out hb)⟩
                  clear hK K
                  try simp only [Act.put, List.setIfInBounds_toArray, List.set_cons_zero, List.set_cons_succ]
                  clear hb
                  refine wpAnyH_ready (rs := [10]) (by kernel_rfl) (by simp) ?_
                  refine AllReadyH.cons (o := ⟨some 39, _, _, _, _, _⟩) rfl (fun K hK => ?_) AllReadyH.nil
                  go_simp
                  with_reducible refine (KT1.out _ hHeld.2.2.2.2.2.2.2.2.2.2.2.2.out).mono ?_
                  rintro e w' ⟨rfl, hb⟩
                  go_wp2_with fail
                  refine hK.out _ _ ?_ (fun hHeld => ?_)
                  · exact ⟨cell_keep' hb hHeld.1, cell_keep' hb hHeld.2.1, cell_keep' hb hHeld.2.2.1, cell_keep' hb hHeld.2.2.2.1, cell_keep' hb hHeld.2.2.2.2.1, cell_keep' hb hHeld.2.2.2.2.2.1, cell_keep' hb hHeld.2.2.2.2.2.2.1, cell_keep' hb hHeld.2.2.2.2.2.2.2.1, cell_keep' hb hHeld.2.2.2.2.2.2.2.2.1, cell_keep' hb hHeld.2.2.2.2.2.2.2.2.2.1, cell_keep' hb hHeld.2.2.2.2.2.2.2.2.2.2.1, cell_keep' hb hHeld.2.2.2.2.2.2.2.2.2.2.2.1, Lib.hid (below_next hHeld.2.2.2.2.2.2.2.2.2.2.2.2.out hb)⟩
                  clear hK K
                  try simp only [Act.put, List.setIfInBounds_toArray, List.set_cons_zero, List.set_cons_succ]
                  clear hb
                  refine wpAnyH_take (i := 11) (oi := ⟨some 40, _, _, _, _, _⟩) (v := ?_) rfl (by kernel_rfl) (by kernel_rfl) (by kernel_rfl) (fun _ _ _ h => h) (Or.inl ⟨by rfl, ?_⟩) (by assumption) ?_
                  rotate_left
                  · (intro w hSw; (try dsimp only at hSw); go_simp; (try with_reducible rfl))
                  try simp only [Act.put, List.setIfInBounds_toArray, List.set_cons_zero, List.set_cons_succ]
                  refine wpAnyH_ready (rs := [14]) (by kernel_rfl) (by simp) ?_
                  refine AllReadyH.cons (o := ⟨some 43, _, _, _, _, _⟩) rfl (fun K hK => ?_) AllReadyH.nil
                  go_simp
                  with_reducible refine (KQ0.out _ hHeld.2.2.2.2.2.2.2.2.2.2.2.2.out).mono ?_
                  rintro e w' ⟨rfl, hb⟩
                  go_wp2_with fail
                  refine hK.out _ _ ?_ (fun hHeld => ?_)
                  · exact ⟨cell_keep' hb hHeld.1, cell_keep' hb hHeld.2.1, cell_keep' hb hHeld.2.2.1, cell_keep' hb hHeld.2.2.2.1, cell_keep' hb hHeld.2.2.2.2.1, cell_keep' hb hHeld.2.2.2.2.2.1, cell_keep' hb hHeld.2.2.2.2.2.2.1, cell_keep' hb hHeld.2.2.2.2.2.2.2.1, cell_keep' hb hHeld.2.2.2.2.2.2.2.2.1, cell_keep' hb hHeld.2.2.2.2.2.2.2.2.2.1, cell_keep' hb hHeld.2.2.2.2.2.2.2.2.2.2.1, cell_keep' hb hHeld.2.2.2.2.2.2.2.2.2.2.2.1, Lib.hid (below_next hHeld.2.2.2.2.2.2.2.2.2.2.2.2.out hb)⟩
                  clear hK K
                  try simp only [Act.put, List.setIfInBounds_toArray, List.set_cons_zero, List.set_cons_succ]
                  clear hb
                  refine wpAnyH_take (i := 15) (oi := ⟨some 44, _, _, _, _, _⟩) (v := ?_) rfl (by kernel_rfl) (by kernel_rfl) (by kernel_rfl) (fun _ _ _ h => h) (Or.inl ⟨by rfl, ?_⟩) (by assumption) ?_
                  rotate_left
                  · (intro w hSw; (try dsimp only at hSw); go_simp; (try with_reducible rfl))
                  try simp only [Act.put, List.setIfInBounds_toArray, List.set_cons_zero, List.set_cons_succ]
                  refine wpAnyH_take (i := 16) (oi := ⟨some 45, _, _, _, _, _⟩) (v := ?_) rfl (by kernel_rfl) (by kernel_rfl) (by kernel_rfl) (fun _ _ _ h => h) (Or.inl ⟨by rfl, ?_⟩) (by assumption) ?_
                  rotate_left
                  · (intro w hSw; (try dsimp only at hSw); go_simp; (try with_reducible rfl))
                  try simp only [Act.put, List.setIfInBounds_toArray, List.set_cons_zero, List.set_cons_succ]
                  refine wpAnyH_done (by kernel_rfl) ?_ _
                  have HZ := Lib.hid hHeld.2.2.2.2.2.2.2.2.2.2.2.2.out
                  clear hHeld
                  go_wp2_with fail
                  go_meet
                  exact ⟨rfl, HZ⟩
          case rest =>
            obtain ⟨rfl, HR⟩ := hcut
            go_upto_region 7 with fail
            cases V2
            · skip
              have d2_0 := ((HC.out _ HR.out).2.2.1 0 _ rfl)
              refine wp_region_held_drew (S := fun W => W.cell? ⟨w.heap.size + 1 + 1, 0, none⟩ = some (.slice p2 N2 c2) ∧ Hid (Below w1.heap.size w1 W)) (by kernel_rfl) ?_ (fun hHeld => ?_)
              · exact ⟨d2_0, Lib.hid (HR.out).drew⟩
              clear d2_0
              refine wpAnyH_take (i := 0) (oi := ⟨some 46, _, _, _, _, _⟩) (v := ?_) rfl (by kernel_rfl) (by kernel_rfl) (by kernel_rfl) (fun _ _ _ h => h) (Or.inl ⟨by rfl, ?_⟩) (by assumption) ?_
              rotate_left
              · (intro w hSw; (try dsimp only at hSw); go_simp; (try with_reducible rfl))
              try simp only [Act.put, List.setIfInBounds_toArray, List.set_cons_zero, List.set_cons_succ]
              refine wpAnyH_ready (rs := [1]) (by kernel_rfl) (by simp) ?_
              refine AllReadyH.cons (o := ⟨some 47, _, _, _, _, _⟩) rfl (fun K hK => ?_) AllReadyH.nil
              go_simp
              with_reducible refine (KV2.out _ hHeld.2.out).mono ?_
              rintro e w' ⟨rfl, hb⟩
              go_wp2_with fail
              refine hK.out _ _ ?_ (fun hHeld => ?_)
              · exact ⟨cell_keep' hb hHeld.1, Lib.hid (below_next hHeld.2.out hb)⟩
              clear hK K
              try simp only [Act.put, List.setIfInBounds_toArray, List.set_cons_zero, List.set_cons_succ]
              clear hb
              refine wpAnyH_take (i := 2) (oi := ⟨some 48, _, _, _, _, _⟩) (v := ?_) rfl (by kernel_rfl) (by kernel_rfl) (by kernel_rfl) (fun _ _ _ h => h) (Or.inl ⟨by rfl, ?_⟩) (by assumption) ?_
              rotate_left
              · (intro w hSw; (try dsimp only at hSw); go_simp; (try with_reducible rfl))
              try simp only [Act.put, List.setIfInBounds_toArray, List.set_cons_zero, List.set_cons_succ]
              refine wpAnyH_take (i := 3) (oi := ⟨some 49, _, _, _, _, _⟩) (v := ?_) rfl (by kernel_rfl) (by kernel_rfl) (by kernel_rfl) (fun _ _ _ h => h) (Or.inl ⟨by rfl, ?_⟩) (by assumption) ?_
              rotate_left
              · (intro w hSw; (try dsimp only at hSw); go_simp; (try with_reducible rfl))
              try simp only [Act.put, List.setIfInBounds_toArray, List.set_cons_zero, List.set_cons_succ]
              refine wpAnyH_take (i := 4) (oi := ⟨some 50, _, _, _, _, _⟩) (v := undef) rfl (by kernel_rfl) (by kernel_rfl) (by kernel_rfl) (fun _ _ _ h => h) (Or.inr ⟨by rfl, rfl⟩) (by assumption) ?_
              try simp only [Act.put, List.setIfInBounds_toArray, List.set_cons_zero, List.set_cons_succ]
              refine wpAnyH_take (i := 5) (oi := ⟨some 51, _, _, _, _, _⟩) (v := undef) rfl (by kernel_rfl) (by kernel_rfl) (by kernel_rfl) (fun _ _ _ h => h) (Or.inr ⟨by rfl, rfl⟩) (by assumption) ?_
              try simp only [Act.put, List.setIfInBounds_toArray, List.set_cons_zero, List.set_cons_succ]
              refine wpAnyH_take (i := 6) (oi := ⟨some 52, _, _, _, _, _⟩) (v := undef) rfl (by kernel_rfl) (by kernel_rfl) (by kernel_rfl) (fun _ _ _ h => h) (Or.inr ⟨by rfl, rfl⟩) (by assumption) ?_
              try simp only [Act.put, List.setIfInBounds_toArray, List.set_cons_zero, List.set_cons_succ]
              refine wpAnyH_take (i := 7) (oi := ⟨some 53, _, _, _, _, _⟩) (v := ?_) rfl (by kernel_rfl) (by kernel_rfl) (by kernel_rfl) (fun _ _ _ h => h) (Or.inl ⟨by rfl, ?_⟩) (by assumption) ?_
              rotate_left
              · (intro w hSw; (try dsimp only at hSw); go_simp; (try with_reducible rfl))
              try simp only [Act.put, List.setIfInBounds_toArray, List.set_cons_zero, List.set_cons_succ]
              refine wpAnyH_take (i := 8) (oi := ⟨some 54, _, _, _, _, _⟩) (v := ?_) rfl (by kernel_rfl) (by kernel_rfl) (by kernel_rfl) (fun _ _ _ h => h) (Or.inl ⟨by rfl, ?_⟩) (by assumption) ?_
              rotate_left
              · (intro w hSw; (try dsimp only at hSw); go_simp; (try with_reducible rfl))
              try simp only [Act.put, List.setIfInBounds_toArray, List.set_cons_zero, List.set_cons_succ]
              refine wpAnyH_take (i := 9) (oi := ⟨some 55, _, _, _, _, _⟩) (v := undef) rfl (by kernel_rfl) (by kernel_rfl) (by kernel_rfl) (fun _ _ _ h => h) (Or.inr ⟨by rfl, rfl⟩) (by assumption) ?_
              try simp only [Act.put, List.setIfInBounds_toArray, List.set_cons_zero, List.set_cons_succ]
              refine wpAnyH_take (i := 10) (oi := ⟨some 56, _, _, _, _, _⟩) (v := undef) rfl (by kernel_rfl) (by kernel_rfl) (by kernel_rfl) (fun _ _ _ h => h) (Or.inr ⟨by rfl, rfl⟩) (by assumption) ?_
              try simp only [Act.put, List.setIfInBounds_toArray, List.set_cons_zero, List.set_cons_succ]
              refine wpAnyH_take (i := 11) (oi := ⟨some 57, _, _, _, _, _⟩) (v := undef) rfl (by kernel_rfl) (by kernel_rfl) (by kernel_rfl) (fun _ _ _ h => h) (Or.inr ⟨by rfl, rfl⟩) (by assumption) ?_
              try simp only [Act.put, List.setIfInBounds_toArray, List.set_cons_zero, List.set_cons_succ]
              refine wpAnyH_take (i := 12) (oi := ⟨some 58, _, _, _, _, _⟩) (v := undef) rfl (by kernel_rfl) (by kernel_rfl) (by kernel_rfl) (fun _ _ _ h => h) (Or.inr ⟨by rfl, rfl⟩) (by assumption) ?_
              try simp only [Act.put, List.setIfInBounds_toArray, List.set_cons_zero, List.set_cons_succ]
              refine wpAnyH_take (i := 13) (oi := ⟨some 59, _, _, _, _, _⟩) (v := undef) rfl (by kernel_rfl) (by kernel_rfl) (by kernel_rfl) (fun _ _ _ h => h) (Or.inr ⟨by rfl, rfl⟩) (by assumption) ?_
              try simp only [Act.put, List.setIfInBounds_toArray, List.set_cons_zero, List.set_cons_succ]
              refine wpAnyH_take (i := 14) (oi := ⟨some 60, _, _, _, _, _⟩) (v := undef) rfl (by kernel_rfl) (by kernel_rfl) (by kernel_rfl) (fun _ _ _ h => h) (Or.inr ⟨by rfl, rfl⟩) (by assumption) ?_
              try simp only [Act.put, List.setIfInBounds_toArray, List.set_cons_zero, List.set_cons_succ]
              refine wpAnyH_take (i := 15) (oi := ⟨some 61, _, _, _, _, _⟩) (v := undef) rfl (by kernel_rfl) (by kernel_rfl) (by kernel_rfl) (fun _ _ _ h => h) (Or.inr ⟨by rfl, rfl⟩) (by assumption) ?_
              try simp only [Act.put, List.setIfInBounds_toArray, List.set_cons_zero, List.set_cons_succ]
              refine wpAnyH_take (i := 16) (oi := ⟨some 62, _, _, _, _, _⟩) (v := undef) rfl (by kernel_rfl) (by kernel_rfl) (by kernel_rfl) (fun _ _ _ h => h) (Or.inr ⟨by rfl, rfl⟩) (by assumption) ?_
              try simp only [Act.put, List.setIfInBounds_toArray, List.set_cons_zero, List.set_cons_succ]
              refine wpAnyH_take (i := 17) (oi := ⟨some 63, _, _, _, _, _⟩) (v := undef) rfl (by kernel_rfl) (by kernel_rfl) (by kernel_rfl) (fun _ _ _ h => h) (Or.inr ⟨by rfl, rfl⟩) (by assumption) ?_
              try simp only [Act.put, List.setIfInBounds_toArray, List.set_cons_zero, List.set_cons_succ]
              refine wpAnyH_take (i := 18) (oi := ⟨some 64, _, _, _, _, _⟩) (v := ?_) rfl (by kernel_rfl) (by kernel_rfl) (by kernel_rfl) (fun _ _ _ h => h) (Or.inl ⟨by rfl, ?_⟩) (by assumption) ?_
              rotate_left
              · (intro w hSw; (try dsimp only at hSw); go_simp; (try with_reducible rfl))
              try simp only [Act.put, List.setIfInBounds_toArray, List.set_cons_zero, List.set_cons_succ]
              refine wpAnyH_take (i := 19) (oi := ⟨some 8, _, _, _, _, _⟩) (v := ?_) rfl (by kernel_rfl) (by kernel_rfl) (by kernel_rfl) (fun _ _ _ h => h) (Or.inl ⟨by rfl, ?_⟩) (by assumption) ?_
              rotate_left
              · (intro w hSw; (try dsimp only at hSw); go_simp; (try with_reducible rfl))
              try simp only [Act.put, List.setIfInBounds_toArray, List.set_cons_zero, List.set_cons_succ]
              refine wpAnyH_done (by kernel_rfl) ?_ _
              have HZ := Lib.hid hHeld.2.out
              clear hHeld
              go_wp2_with fail
              go_ret
              exact ⟨rfl, below_next HB1.out HZ.out⟩
            · cases V3
              · skip
                have d2_0 := ((HC.out _ HR.out).2.2.1 0 _ rfl)
                have d3_0 := ((HC.out _ HR.out).2.2.2 0 _ rfl)
                refine wp_region_held_drew (S := fun W => W.cell? ⟨w.heap.size + 1 + 1, 0, none⟩ = some (.slice p2 N2 c2) ∧ W.cell? ⟨w.heap.size + 1 + 1 + 1, 0, none⟩ = some (.slice p3 N3 c3) ∧ Hid (Below w1.heap.size w1 W)) (by kernel_rfl) ?_ (fun hHeld => ?_)
                · exact ⟨d2_0, d3_0, Lib.hid (HR.out).drew⟩
                clear d2_0 d3_0
                refine wpAnyH_take (i := 0) (oi := ⟨some 46, _, _, _, _, _⟩) (v := ?_) rfl (by kernel_rfl) (by kernel_rfl) (by kernel_rfl) (fun _ _ _ h => h) (Or.inl ⟨by rfl, ?_⟩) (by assumption) ?_
                rotate_left
                · (intro w hSw; (try dsimp only at hSw); go_simp; (try with_reducible rfl))
                try simp only [Act.put, List.setIfInBounds_toArray, List.set_cons_zero, List.set_cons_succ]
                refine wpAnyH_ready (rs := [1]) (by kernel_rfl) (by simp) ?_
                refine AllReadyH.cons (o := ⟨some 47, _, _, _, _, _⟩) rfl (fun K hK => ?_) AllReadyH.nil
                go_simp
                with_reducible refine (KV2.out _ hHeld.2.2.out).mono ?_
                rintro e w' ⟨rfl, hb⟩
                go_wp2_with fail
                refine hK.out _ _ ?_ (fun hHeld => ?_)
                · exact ⟨cell_keep' hb hHeld.1, cell_keep' hb hHeld.2.1, Lib.hid (below_next hHeld.2.2.out hb)⟩
                clear hK K
                try simp only [Act.put, List.setIfInBounds_toArray, List.set_cons_zero, List.set_cons_succ]
                clear hb
                refine wpAnyH_take (i := 2) (oi := ⟨some 48, _, _, _, _, _⟩) (v := ?_) rfl (by kernel_rfl) (by kernel_rfl) (by kernel_rfl) (fun _ _ _ h => h) (Or.inl ⟨by rfl, ?_⟩) (by assumption) ?_
                rotate_left
                · (intro w hSw; (try dsimp only at hSw); go_simp; (try with_reducible rfl))
                try simp only [Act.put, List.setIfInBounds_toArray, List.set_cons_zero, List.set_cons_succ]
                refine wpAnyH_take (i := 3) (oi := ⟨some 49, _, _, _, _, _⟩) (v := ?_) rfl (by kernel_rfl) (by kernel_rfl) (by kernel_rfl) (fun _ _ _ h => h) (Or.inl ⟨by rfl, ?_⟩) (by assumption) ?_
                rotate_left
                · (intro w hSw; (try dsimp only at hSw); go_simp; (try with_reducible rfl))
                try simp only [Act.put, List.setIfInBounds_toArray, List.set_cons_zero, List.set_cons_succ]
                refine wpAnyH_take (i := 4) (oi := ⟨some 50, _, _, _, _, _⟩) (v := ?_) rfl (by kernel_rfl) (by kernel_rfl) (by kernel_rfl) (fun _ _ _ h => h) (Or.inl ⟨by rfl, ?_⟩) (by assumption) ?_
                rotate_left
                · (intro w hSw; (try dsimp only at hSw); go_simp; (try with_reducible rfl))
                try simp only [Act.put, List.setIfInBounds_toArray, List.set_cons_zero, List.set_cons_succ]
                refine wpAnyH_ready (rs := [5]) (by kernel_rfl) (by simp) ?_
                refine AllReadyH.cons (o := ⟨some 51, _, _, _, _, _⟩) rfl (fun K hK => ?_) AllReadyH.nil
                go_simp
                with_reducible refine (KV3.out _ hHeld.2.2.out).mono ?_
                rintro e w' ⟨rfl, hb⟩
                go_wp2_with fail
                refine hK.out _ _ ?_ (fun hHeld => ?_)
                · exact ⟨cell_keep' hb hHeld.1, cell_keep' hb hHeld.2.1, Lib.hid (below_next hHeld.2.2.out hb)⟩
                clear hK K
                try simp only [Act.put, List.setIfInBounds_toArray, List.set_cons_zero, List.set_cons_succ]
                clear hb
                refine wpAnyH_take (i := 6) (oi := ⟨some 52, _, _, _, _, _⟩) (v := ?_) rfl (by kernel_rfl) (by kernel_rfl) (by kernel_rfl) (fun _ _ _ h => h) (Or.inl ⟨by rfl, ?_⟩) (by assumption) ?_
                rotate_left
                · (intro w hSw; (try dsimp only at hSw); go_simp; (try with_reducible rfl))
                try simp only [Act.put, List.setIfInBounds_toArray, List.set_cons_zero, List.set_cons_succ]
                refine wpAnyH_take (i := 7) (oi := ⟨some 53, _, _, _, _, _⟩) (v := ?_) rfl (by kernel_rfl) (by kernel_rfl) (by kernel_rfl) (fun _ _ _ h => h) (Or.inl ⟨by rfl, ?_⟩) (by assumption) ?_
                rotate_left
                · (intro w hSw; (try dsimp only at hSw); go_simp; (try with_reducible rfl))
                try simp only [Act.put, List.setIfInBounds_toArray, List.set_cons_zero, List.set_cons_succ]
                refine wpAnyH_take (i := 8) (oi := ⟨some 54, _, _, _, _, _⟩) (v := ?_) rfl (by kernel_rfl) (by kernel_rfl) (by kernel_rfl) (fun _ _ _ h => h) (Or.inl ⟨by rfl, ?_⟩) (by assumption) ?_
                rotate_left
                · (intro w hSw; (try dsimp only at hSw); go_simp; (try with_reducible rfl))
                try simp only [Act.put, List.setIfInBounds_toArray, List.set_cons_zero, List.set_cons_succ]
                refine wpAnyH_take (i := 9) (oi := ⟨some 55, _, _, _, _, _⟩) (v := undef) rfl (by kernel_rfl) (by kernel_rfl) (by kernel_rfl) (fun _ _ _ h => h) (Or.inr ⟨by rfl, rfl⟩) (by assumption) ?_
                try simp only [Act.put, List.setIfInBounds_toArray, List.set_cons_zero, List.set_cons_succ]
                refine wpAnyH_take (i := 10) (oi := ⟨some 56, _, _, _, _, _⟩) (v := undef) rfl (by kernel_rfl) (by kernel_rfl) (by kernel_rfl) (fun _ _ _ h => h) (Or.inr ⟨by rfl, rfl⟩) (by assumption) ?_
                try simp only [Act.put, List.setIfInBounds_toArray, List.set_cons_zero, List.set_cons_succ]
                refine wpAnyH_take (i := 11) (oi := ⟨some 57, _, _, _, _, _⟩) (v := undef) rfl (by kernel_rfl) (by kernel_rfl) (by kernel_rfl) (fun _ _ _ h => h) (Or.inr ⟨by rfl, rfl⟩) (by assumption) ?_
                try simp only [Act.put, List.setIfInBounds_toArray, List.set_cons_zero, List.set_cons_succ]
                refine wpAnyH_take (i := 12) (oi := ⟨some 58, _, _, _, _, _⟩) (v := undef) rfl (by kernel_rfl) (by kernel_rfl) (by kernel_rfl) (fun _ _ _ h => h) (Or.inr ⟨by rfl, rfl⟩) (by assumption) ?_
                try simp only [Act.put, List.setIfInBounds_toArray, List.set_cons_zero, List.set_cons_succ]
                refine wpAnyH_take (i := 13) (oi := ⟨some 59, _, _, _, _, _⟩) (v := undef) rfl (by kernel_rfl) (by kernel_rfl) (by kernel_rfl) (fun _ _ _ h => h) (Or.inr ⟨by rfl, rfl⟩) (by assumption) ?_
                try simp only [Act.put, List.setIfInBounds_toArray, List.set_cons_zero, List.set_cons_succ]
                refine wpAnyH_take (i := 14) (oi := ⟨some 60, _, _, _, _, _⟩) (v := undef) rfl (by kernel_rfl) (by kernel_rfl) (by kernel_rfl) (fun _ _ _ h => h) (Or.inr ⟨by rfl, rfl⟩) (by assumption) ?_
                try simp only [Act.put, List.setIfInBounds_toArray, List.set_cons_zero, List.set_cons_succ]
                refine wpAnyH_take (i := 15) (oi := ⟨some 61, _, _, _, _, _⟩) (v := undef) rfl (by kernel_rfl) (by kernel_rfl) (by kernel_rfl) (fun _ _ _ h => h) (Or.inr ⟨by rfl, rfl⟩) (by assumption) ?_
                try simp only [Act.put, List.setIfInBounds_toArray, List.set_cons_zero, List.set_cons_succ]
                refine wpAnyH_take (i := 16) (oi := ⟨some 62, _, _, _, _, _⟩) (v := undef) rfl (by kernel_rfl) (by kernel_rfl) (by kernel_rfl) (fun _ _ _ h => h) (Or.inr ⟨by rfl, rfl⟩) (by assumption) ?_
                try simp only [Act.put, List.setIfInBounds_toArray, List.set_cons_zero, List.set_cons_succ]
                refine wpAnyH_take (i := 17) (oi := ⟨some 63, _, _, _, _, _⟩) (v := undef) rfl (by kernel_rfl) (by kernel_rfl) (by kernel_rfl) (fun _ _ _ h => h) (Or.inr ⟨by rfl, rfl⟩) (by assumption) ?_
                try simp only [Act.put, List.setIfInBounds_toArray, List.set_cons_zero, List.set_cons_succ]
                refine wpAnyH_take (i := 18) (oi := ⟨some 64, _, _, _, _, _⟩) (v := ?_) rfl (by kernel_rfl) (by kernel_rfl) (by kernel_rfl) (fun _ _ _ h => h) (Or.inl ⟨by rfl, ?_⟩) (by assumption) ?_
                rotate_left
                · (intro w hSw; (try dsimp only at hSw); go_simp; (try with_reducible rfl))
                try simp only [Act.put, List.setIfInBounds_toArray, List.set_cons_zero, List.set_cons_succ]
                refine wpAnyH_take (i := 19) (oi := ⟨some 8, _, _, _, _, _⟩) (v := ?_) rfl (by kernel_rfl) (by kernel_rfl) (by kernel_rfl) (fun _ _ _ h => h) (Or.inl ⟨by rfl, ?_⟩) (by assumption) ?_
                rotate_left
                · (intro w hSw; (try dsimp only at hSw); go_simp; (try with_reducible rfl))
                try simp only [Act.put, List.setIfInBounds_toArray, List.set_cons_zero, List.set_cons_succ]
                refine wpAnyH_done (by kernel_rfl) ?_ _
                have HZ := Lib.hid hHeld.2.2.out
                clear hHeld
                go_wp2_with fail
                go_ret
                exact ⟨rfl, below_next HB1.out HZ.out⟩
              · rcases HI2.out rfl rfl with ⟨hq, hT⟩ | ⟨hq, hT⟩
                · subst hq
                  rw [← hT] at KT3
                  clear hT
                  have d2_0 := ((HC.out _ HR.out).2.2.1 0 _ rfl)
                  have d3_0 := ((HC.out _ HR.out).2.2.2 0 _ rfl)
                  refine wp_region_held_drew (S := fun W => W.cell? ⟨w.heap.size + 1 + 1, 0, none⟩ = some (.slice p2 N2 c2) ∧ W.cell? ⟨w.heap.size + 1 + 1 + 1, 0, none⟩ = some (.slice p3 N3 c3) ∧ Hid (Below w1.heap.size w1 W)) (by kernel_rfl) ?_ (fun hHeld => ?_)
                  · exact ⟨d2_0, d3_0, Lib.hid (HR.out).drew⟩
                  clear d2_0 d3_0
                  refine wpAnyH_take (i := 0) (oi := ⟨some 46, _, _, _, _, _⟩) (v := ?_) rfl (by kernel_rfl) (by kernel_rfl) (by kernel_rfl) (fun _ _ _ h => h) (Or.inl ⟨by rfl, ?_⟩) (by assumption) ?_
                  rotate_left
                  · (intro w hSw; (try dsimp only at hSw); go_simp; (try with_reducible rfl))
                  try simp only [Act.put, List.setIfInBounds_toArray, List.set_cons_zero, List.set_cons_succ]
                  refine wpAnyH_ready (rs := [1]) (by kernel_rfl) (by simp) ?_
                  refine AllReadyH.cons (o := ⟨some 47, _, _, _, _, _⟩) rfl (fun K hK => ?_) AllReadyH.nil
                  go_simp
                  with_reducible refine (KV2.out _ hHeld.2.2.out).mono ?_
                  rintro e w' ⟨rfl, hb⟩
                  go_wp2_with fail
                  refine hK.out _ _ ?_ (fun hHeld => ?_)
                  · exact ⟨cell_keep' hb hHeld.1, cell_keep' hb hHeld.2.1, Lib.hid (below_next hHeld.2.2.out hb)⟩
                  clear hK K
                  try simp only [Act.put, List.setIfInBounds_toArray, List.set_cons_zero, List.set_cons_succ]
                  clear hb
                  refine wpAnyH_take (i := 2) (oi := ⟨some 48, _, _, _, _, _⟩) (v := ?_) rfl (by kernel_rfl) (by kernel_rfl) (by kernel_rfl) (fun _ _ _ h => h) (Or.inl ⟨by rfl, ?_⟩) (by assumption) ?_
                  rotate_left
                  · (intro w hSw; (try dsimp only at hSw); go_simp; (try with_reducible rfl))
                  try simp only [Act.put, List.setIfInBounds_toArray, List.set_cons_zero, List.set_cons_succ]
                  refine wpAnyH_take (i := 3) (oi := ⟨some 49, _, _, _, _, _⟩) (v := ?_) rfl (by kernel_rfl) (by kernel_rfl) (by kernel_rfl) (fun _ _ _ h => h) (Or.inl ⟨by rfl, ?_⟩) (by assumption) ?_
                  rotate_left
                  · (intro w hSw; (try dsimp only at hSw); go_simp; (try with_reducible rfl))
                  try simp only [Act.put, List.setIfInBounds_toArray, List.set_cons_zero, List.set_cons_succ]
                  refine wpAnyH_take (i := 4) (oi := ⟨some 50, _, _, _, _, _⟩) (v := ?_) rfl (by kernel_rfl) (by kernel_rfl) (by kernel_rfl) (fun _ _ _ h => h) (Or.inl ⟨by rfl, ?_⟩) (by assumption) ?_
                  rotate_left
                  · (intro w hSw; (try dsimp only at hSw); go_simp; (try with_reducible rfl))
                  try simp only [Act.put, List.setIfInBounds_toArray, List.set_cons_zero, List.set_cons_succ]
                  refine wpAnyH_ready (rs := [5]) (by kernel_rfl) (by simp) ?_
                  refine AllReadyH.cons (o := ⟨some 51, _, _, _, _, _⟩) rfl (fun K hK => ?_) AllReadyH.nil
                  go_simp
                  with_reducible refine (KV3.out _ hHeld.2.2.out).mono ?_
                  rintro e w' ⟨rfl, hb⟩
                  go_wp2_with fail
                  refine hK.out _ _ ?_ (fun hHeld => ?_)
                  · exact ⟨cell_keep' hb hHeld.1, cell_keep' hb hHeld.2.1, Lib.hid (below_next hHeld.2.2.out hb)⟩
                  clear hK K
                  try simp only [Act.put, List.setIfInBounds_toArray, List.set_cons_zero, List.set_cons_succ]
                  clear hb
                  refine wpAnyH_take (i := 6) (oi := ⟨some 52, _, _, _, _, _⟩) (v := ?_) rfl (by kernel_rfl) (by kernel_rfl) (by kernel_rfl) (fun _ _ _ h => h) (Or.inl ⟨by rfl, ?_⟩) (by assumption) ?_
                  rotate_left
                  · (intro w hSw; (try dsimp only at hSw); go_simp; (try with_reducible rfl))
                  try simp only [Act.put, List.setIfInBounds_toArray, List.set_cons_zero, List.set_cons_succ]
                  refine wpAnyH_take (i := 7) (oi := ⟨some 53, _, _, _, _, _⟩) (v := ?_) rfl (by kernel_rfl) (by kernel_rfl) (by kernel_rfl) (fun _ _ _ h => h) (Or.inl ⟨by rfl, ?_⟩) (by assumption) ?_
                  rotate_left
                  · (intro w hSw; (try dsimp only at hSw); go_simp; (try with_reducible rfl))
                  try simp only [Act.put, List.setIfInBounds_toArray, List.set_cons_zero, List.set_cons_succ]
                  refine wpAnyH_take (i := 8) (oi := ⟨some 54, _, _, _, _, _⟩) (v := ?_) rfl (by kernel_rfl) (by kernel_rfl) (by kernel_rfl) (fun _ _ _ h => h) (Or.inl ⟨by rfl, ?_⟩) (by assumption) ?_
                  rotate_left
                  · (intro w hSw; (try dsimp only at hSw); go_simp; (try with_reducible rfl))
                  try simp only [Act.put, List.setIfInBounds_toArray, List.set_cons_zero, List.set_cons_succ]
                  refine wpAnyH_take (i := 9) (oi := ⟨some 55, _, _, _, _, _⟩) (v := ?_) rfl (by kernel_rfl) (by kernel_rfl) (by kernel_rfl) (fun _ _ _ h => h) (Or.inl ⟨by rfl, ?_⟩) (by assumption) ?_
                  rotate_left
                  · (intro w hSw; (try dsimp only at hSw); go_simp; (try with_reducible rfl))
                  try simp only [Act.put, List.setIfInBounds_toArray, List.set_cons_zero, List.set_cons_succ]
                  refine wpAnyH_take (i := 11) (oi := ⟨some 57, _, _, _, _, _⟩) (v := ?_) rfl (by kernel_rfl) (by kernel_rfl) (by kernel_rfl) (fun _ _ _ h => h) (Or.inl ⟨by rfl, ?_⟩) (by assumption) ?_
                  rotate_left
                  · (intro w hSw; (try dsimp only at hSw); go_simp; (try with_reducible rfl))
                  try simp only [Act.put, List.setIfInBounds_toArray, List.set_cons_zero, List.set_cons_succ]
                  refine wpAnyH_take (i := 14) (oi := ⟨some 60, _, _, _, _, _⟩) (v := ?_) rfl (by kernel_rfl) (by kernel_rfl) (by kernel_rfl) (fun _ _ _ h => h) (Or.inl ⟨by rfl, ?_⟩) (by assumption) ?_
                  rotate_left
                  · (intro w hSw; (try dsimp only at hSw); go_simp; (try with_reducible rfl))
                  try simp only [Act.put, List.setIfInBounds_toArray, List.set_cons_zero, List.set_cons_succ]
                  refine wpAnyH_take (i := 15) (oi := ⟨some 61, _, _, _, _, _⟩) (v := ?_) rfl (by kernel_rfl) (by kernel_rfl) (by kernel_rfl) (fun _ _ _ h => h) (Or.inl ⟨by rfl, ?_⟩) (by assumption) ?_
                  rotate_left
                  · (intro w hSw; (try dsimp only at hSw); go_simp; (try with_reducible rfl))
                  try simp only [Act.put, List.setIfInBounds_toArray, List.set_cons_zero, List.set_cons_succ]
                  refine wpAnyH_ready (rs := [10]) (by kernel_rfl) (by simp) ?_
                  refine AllReadyH.cons (o := ⟨some 56, _, _, _, _, _⟩) rfl (fun K hK => ?_) AllReadyH.nil
                  go_simp
                  with_reducible refine (KT2.out _ hHeld.2.2.out).mono ?_
                  rintro e w' ⟨rfl, hb⟩
                  go_wp2_with fail
                  refine hK.out _ _ ?_ (fun hHeld => ?_)
                  · exact ⟨cell_keep' hb hHeld.1, cell_keep' hb hHeld.2.1, Lib.hid (below_next hHeld.2.2.out hb)⟩
                  clear hK K
                  try simp only [Act.put, List.setIfInBounds_toArray, List.set_cons_zero, List.set_cons_succ]
                  clear hb
                  refine wpAnyH_ready (rs := [12]) (by kernel_rfl) (by simp) ?_
                  refine AllReadyH.cons (o := ⟨some 58, _, _, _, _, _⟩) rfl (fun K hK => ?_) AllReadyH.nil
                  go_simp
                  with_reducible refine (KT3.out _ hHeld.2.2.out).mono ?_
                  rintro e w' ⟨rfl, hb⟩
                  go_wp2_with fail
                  refine hK.out _ _ ?_ (fun hHeld => ?_)
                  · exact ⟨cell_keep' hb hHeld.1, cell_keep' hb hHeld.2.1, Lib.hid (below_next hHeld.2.2.out hb)⟩
                  clear hK K
                  try simp only [Act.put, List.setIfInBounds_toArray, List.set_cons_zero, List.set_cons_succ]
                  clear hb
                  refine wpAnyH_take (i := 13) (oi := ⟨some 59, _, _, _, _, _⟩) (v := ?_) rfl (by kernel_rfl) (by kernel_rfl) (by kernel_rfl) (fun _ _ _ h => h) (Or.inl ⟨by rfl, ?_⟩) (by assumption) ?_
                  rotate_left
                  · (intro w hSw; (try dsimp only at hSw); go_simp; (try with_reducible rfl))
                  try simp only [Act.put, List.setIfInBounds_toArray, List.set_cons_zero, List.set_cons_succ]
                  refine wpAnyH_ready (rs := [16]) (by kernel_rfl) (by simp) ?_
                  refine AllReadyH.cons (o := ⟨some 62, _, _, _, _, _⟩) rfl (fun K hK => ?_) AllReadyH.nil
                  go_simp
                  with_reducible refine (KQ2.out _ hHeld.2.2.out).mono ?_
                  rintro e w' ⟨rfl, hb⟩
                  go_wp2_with fail
                  refine hK.out _ _ ?_ (fun hHeld => ?_)
                  · exact ⟨cell_keep' hb hHeld.1, cell_keep' hb hHeld.2.1, Lib.hid (below_next hHeld.2.2.out hb)⟩
                  clear hK K
                  try simp only [Act.put, List.setIfInBounds_toArray, List.set_cons_zero, List.set_cons_succ]
                  clear hb
                  refine wpAnyH_take (i := 17) (oi := ⟨some 63, _, _, _, _, _⟩) (v := ?_) rfl (by kernel_rfl) (by kernel_rfl) (by kernel_rfl) (fun _ _ _ h => h) (Or.inl ⟨by rfl, ?_⟩) (by assumption) ?_
                  rotate_left
                  · (intro w hSw; (try dsimp only at hSw); go_simp; (try with_reducible rfl))
                  try simp only [Act.put, List.setIfInBounds_toArray, List.set_cons_zero, List.set_cons_succ]
                  refine wpAnyH_take (i := 18) (oi := ⟨some 64, _, _, _, _, _⟩) (v := ?_) rfl (by kernel_rfl) (by kernel_rfl) (by kernel_rfl) (fun _ _ _ h => h) (Or.inl ⟨by rfl, ?_⟩) (by assumption) ?_
                  rotate_left
                  · (intro w hSw; (try dsimp only at hSw); go_simp; (try with_reducible rfl))
                  try simp only [Act.put, List.setIfInBounds_toArray, List.set_cons_zero, List.set_cons_succ]
                  refine wpAnyH_take (i := 19) (oi := ⟨some 8, _, _, _, _, _⟩) (v := ?_) rfl (by kernel_rfl) (by kernel_rfl) (by kernel_rfl) (fun _ _ _ h => h) (Or.inl ⟨by rfl, ?_⟩) (by assumption) ?_
                  rotate_left
                  · (intro w hSw; (try dsimp only at hSw); go_simp; (try with_reducible rfl))
                  try simp only [Act.put, List.setIfInBounds_toArray, List.set_cons_zero, List.set_cons_succ]
                  refine wpAnyH_done (by kernel_rfl) ?_ _
                  have HZ := Lib.hid hHeld.2.2.out
                  clear hHeld
                  go_wp2_with fail
                  go_ret
                  exact ⟨rfl, below_next HB1.out HZ.out⟩
                · subst hq
                  have d2_0 := ((HC.out _ HR.out).2.2.1 0 _ rfl)
                  have d3_0 := ((HC.out _ HR.out).2.2.2 0 _ rfl)
                  refine wp_region_held_drew (S := fun W => W.cell? ⟨w.heap.size + 1 + 1, 0, none⟩ = some (.slice p2 N2 c2) ∧ W.cell? ⟨w.heap.size + 1 + 1 + 1, 0, none⟩ = some (.slice p3 N3 c3) ∧ Hid (Below w1.heap.size w1 W)) (by kernel_rfl) ?_ (fun hHeld => ?_)
                  · exact ⟨d2_0, d3_0, Lib.hid (HR.out).drew⟩
                  clear d2_0 d3_0
                  refine wpAnyH_take (i := 0) (oi := ⟨some 46, _, _, _, _, _⟩) (v := ?_) rfl (by kernel_rfl) (by kernel_rfl) (by kernel_rfl) (fun _ _ _ h => h) (Or.inl ⟨by rfl, ?_⟩) (by assumption) ?_
                  rotate_left
                  · (intro w hSw; (try dsimp only at hSw); go_simp; (try with_reducible rfl))
                  try simp only [Act.put, List.setIfInBounds_toArray, List.set_cons_zero, List.set_cons_succ]
                  refine wpAnyH_ready (rs := [1]) (by kernel_rfl) (by simp) ?_
                  refine AllReadyH.cons (o := ⟨some 47, _, _, _, _, _⟩) rfl (fun K hK => ?_) AllReadyH.nil
                  go_simp
                  with_reducible refine (KV2.out _ hHeld.2.2.out).mono ?_
                  rintro e w' ⟨rfl, hb⟩
                  go_wp2_with fail
                  refine hK.out _ _ ?_ (fun hHeld => ?_)
                  · exact ⟨cell_keep' hb hHeld.1, cell_keep' hb hHeld.2.1, Lib.hid (below_next hHeld.2.2.out hb)⟩
                  clear hK K
                  try simp only [Act.put, List.setIfInBounds_toArray, List.set_cons_zero, List.set_cons_succ]
                  clear hb
                  refine wpAnyH_take (i := 2) (oi := ⟨some 48, _, _, _, _, _⟩) (v := ?_) rfl (by kernel_rfl) (by kernel_rfl) (by kernel_rfl) (fun _ _ _ h => h) (Or.inl ⟨by rfl, ?_⟩) (by assumption) ?_
                  rotate_left
                  · (intro w hSw; (try dsimp only at hSw); go_simp; (try with_reducible rfl))
                  try simp only [Act.put, List.setIfInBounds_toArray, List.set_cons_zero, List.set_cons_succ]
                  refine wpAnyH_take (i := 3) (oi := ⟨some 49, _, _, _, _, _⟩) (v := ?_) rfl (by kernel_rfl) (by kernel_rfl) (by kernel_rfl) (fun _ _ _ h => h) (Or.inl ⟨by rfl, ?_⟩) (by assumption) ?_
                  rotate_left
                  · (intro w hSw; (try dsimp only at hSw); go_simp; (try with_reducible rfl))
                  try simp only [Act.put, List.setIfInBounds_toArray, List.set_cons_zero, List.set_cons_succ]
                  refine wpAnyH_take (i := 4) (oi := ⟨some 50, _, _, _, _, _⟩) (v := ?_) rfl (by kernel_rfl) (by kernel_rfl) (by kernel_rfl) (fun _ _ _ h => h) (Or.inl ⟨by rfl, ?_⟩) (by assumption) ?_
                  rotate_left
                  · (intro w hSw; (try dsimp only at hSw); go_simp; (try with_reducible rfl))
                  try simp only [Act.put, List.setIfInBounds_toArray, List.set_cons_zero, List.set_cons_succ]
                  refine wpAnyH_ready (rs := [5]) (by kernel_rfl) (by simp) ?_
                  refine AllReadyH.cons (o := ⟨some 51, _, _, _, _, _⟩) rfl (fun K hK => ?_) AllReadyH.nil
                  go_simp
                  with_reducible refine (KV3.out _ hHeld.2.2.out).mono ?_
                  rintro e w' ⟨rfl, hb⟩
                  go_wp2_with fail
                  refine hK.out _ _ ?_ (fun hHeld => ?_)
                  · exact ⟨cell_keep' hb hHeld.1, cell_keep' hb hHeld.2.1, Lib.hid (below_next hHeld.2.2.out hb)⟩
                  clear hK K
                  try simp only [Act.put, List.setIfInBounds_toArray, List.set_cons_zero, List.set_cons_succ]
                  clear hb
                  refine wpAnyH_take (i := 6) (oi := ⟨some 52, _, _, _, _, _⟩) (v := ?_) rfl (by kernel_rfl) (by kernel_rfl) (by kernel_rfl) (fun _ _ _ h => h) (Or.inl ⟨by rfl, ?_⟩) (by assumption) ?_
                  rotate_left
                  · (intro w hSw; (try dsimp only at hSw); go_simp; (try with_reducible rfl))
                  try simp only [Act.put, List.setIfInBounds_toArray, List.set_cons_zero, List.set_cons_succ]
                  refine wpAnyH_take (i := 7) (oi := ⟨some 53, _, _, _, _, _⟩) (v := ?_) rfl (by kernel_rfl) (by kernel_rfl) (by kernel_rfl) (fun _ _ _ h => h) (Or.inl ⟨by rfl, ?_⟩) (by assumption) ?_
                  rotate_left
                  · (intro w hSw; (try dsimp only at hSw); go_simp; (try with_reducible rfl))
                  try simp only [Act.put, List.setIfInBounds_toArray, List.set_cons_zero, List.set_cons_succ]
                  refine wpAnyH_take (i := 8) (oi := ⟨some 54, _, _, _, _, _⟩) (v := ?_) rfl (by kernel_rfl) (by kernel_rfl) (by kernel_rfl) (fun _ _ _ h => h) (Or.inl ⟨by rfl, ?_⟩) (by assumption) ?_
                  rotate_left
                  · (intro w hSw; (try dsimp only at hSw); go_simp; (try with_reducible rfl))
                  try simp only [Act.put, List.setIfInBounds_toArray, List.set_cons_zero, List.set_cons_succ]
                  refine wpAnyH_take (i := 9) (oi := ⟨some 55, _, _, _, _, _⟩) (v := ?_) rfl (by kernel_rfl) (by kernel_rfl) (by kernel_rfl) (fun _ _ _ h => h) (Or.inl ⟨by rfl, ?_⟩) (by assumption) ?_
                  rotate_left
                  · (intro w hSw; (try dsimp only at hSw); go_simp; (try with_reducible rfl))
                  try simp only [Act.put, List.setIfInBounds_toArray, List.set_cons_zero, List.set_cons_succ]
                  refine wpAnyH_take (i := 11) (oi := ⟨some 57, _, _, _, _, _⟩) (v := ?_) rfl (by kernel_rfl) (by kernel_rfl) (by kernel_rfl) (fun _ _ _ h => h) (Or.inl ⟨by rfl, ?_⟩) (by assumption) ?_
                  rotate_left
                  · (intro w hSw; (try dsimp only at hSw); go_simp; (try with_reducible rfl))
                  try simp only [Act.put, List.setIfInBounds_toArray, List.set_cons_zero, List.set_cons_succ]
                  refine wpAnyH_take (i := 14) (oi := ⟨some 60, _, _, _, _, _⟩) (v := ?_) rfl (by kernel_rfl) (by kernel_rfl) (by kernel_rfl) (fun _ _ _ h => h) (Or.inl ⟨by rfl, ?_⟩) (by assumption) ?_
                  rotate_left
                  · (intro w hSw; (try dsimp only at hSw); go_simp; (try with_reducible rfl))
                  try simp only [Act.put, List.setIfInBounds_toArray, List.set_cons_zero, List.set_cons_succ]
                  refine wpAnyH_take (i := 15) (oi := ⟨some 61, _, _, _, _, _⟩) (v := ?_) rfl (by kernel_rfl) (by kernel_rfl) (by kernel_rfl) (fun _ _ _ h => h) (Or.inl ⟨by rfl, ?_⟩) (by assumption) ?_
                  rotate_left
                  · (intro w hSw; (try dsimp only at hSw); go_simp; (try with_reducible rfl))
                  try simp only [Act.put, List.setIfInBounds_toArray, List.set_cons_zero, List.set_cons_succ]
                  refine wpAnyH_ready (rs := [10]) (by kernel_rfl) (by simp) ?_
                  refine AllReadyH.cons (o := ⟨some 56, _, _, _, _, _⟩) rfl (fun K hK => ?_) AllReadyH.nil
                  go_simp
                  with_reducible refine (KT2.out _ hHeld.2.2.out).mono ?_
                  rintro e w' ⟨rfl, hb⟩
                  go_wp2_with fail
                  refine hK.out _ _ ?_ (fun hHeld => ?_)
                  · exact ⟨cell_keep' hb hHeld.1, cell_keep' hb hHeld.2.1, Lib.hid (below_next hHeld.2.2.out hb)⟩
                  clear hK K
                  try simp only [Act.put, List.setIfInBounds_toArray, List.set_cons_zero, List.set_cons_succ]
                  clear hb
                  refine wpAnyH_ready (rs := [12]) (by kernel_rfl) (by simp) ?_
                  refine AllReadyH.cons (o := ⟨some 58, _, _, _, _, _⟩) rfl (fun K hK => ?_) AllReadyH.nil
                  go_simp
                  with_reducible refine (KT3.out _ hHeld.2.2.out).mono ?_
                  rintro e w' ⟨rfl, hb⟩
                  go_wp2_with fail
                  refine hK.out _ _ ?_ (fun hHeld => ?_)
                  · exact ⟨cell_keep' hb hHeld.1, cell_keep' hb hHeld.2.1, Lib.hid (below_next hHeld.2.2.out hb)⟩
                  clear hK K
                  try simp only [Act.put, List.setIfInBounds_toArray, List.set_cons_zero, List.set_cons_succ]
                  clear hb
                  refine wpAnyH_take (i := 13) (oi := ⟨some 59, _, _, _, _, _⟩) (v := ?_) rfl (by kernel_rfl) (by kernel_rfl) (by kernel_rfl) (fun _ _ _ h => h) (Or.inl ⟨by rfl, ?_⟩) (by assumption) ?_
                  rotate_left
                  · (intro w hSw; (try dsimp only at hSw); go_simp; (try with_reducible rfl))
                  try simp only [Act.put, List.setIfInBounds_toArray, List.set_cons_zero, List.set_cons_succ]
                  refine wpAnyH_ready (rs := [16]) (by kernel_rfl) (by simp) ?_
                  refine AllReadyH.cons (o := ⟨some 62, _, _, _, _, _⟩) rfl (fun K hK => ?_) AllReadyH.nil
                  go_simp
                  with_reducible refine (KQ2.out _ hHeld.2.2.out).mono ?_
                  rintro e w' ⟨rfl, hb⟩
                  go_wp2_with fail
                  refine hK.out _ _ ?_ (fun hHeld => ?_)
                  · exact ⟨cell_keep' hb hHeld.1, cell_keep' hb hHeld.2.1, Lib.hid (below_next hHeld.2.2.out hb)⟩
                  clear hK K
                  try simp only [Act.put, List.setIfInBounds_toArray, List.set_cons_zero, List.set_cons_succ]
                  clear hb
                  refine wpAnyH_take (i := 17) (oi := ⟨some 63, _, _, _, _, _⟩) (v := ?_) rfl (by kernel_rfl) (by kernel_rfl) (by kernel_rfl) (fun _ _ _ h => h) (Or.inl ⟨by rfl, ?_⟩) (by assumption) ?_
                  rotate_left
                  · (intro w hSw; (try dsimp only at hSw); go_simp; (try with_reducible rfl))
                  try simp only [Act.put, List.setIfInBounds_toArray, List.set_cons_zero, List.set_cons_succ]
                  refine wpAnyH_take (i := 18) (oi := ⟨some 64, _, _, _, _, _⟩) (v := ?_) rfl (by kernel_rfl) (by kernel_rfl) (by kernel_rfl) (fun _ _ _ h => h) (Or.inl ⟨by rfl, ?_⟩) (by assumption) ?_
                  rotate_left
                  · (intro w hSw; (try dsimp only at hSw); go_simp; (try with_reducible rfl))
                  try simp only [Act.put, List.setIfInBounds_toArray, List.set_cons_zero, List.set_cons_succ]
                  refine wpAnyH_take (i := 19) (oi := ⟨some 8, _, _, _, _, _⟩) (v := ?_) rfl (by kernel_rfl) (by kernel_rfl) (by kernel_rfl) (fun _ _ _ h => h) (Or.inl ⟨by rfl, ?_⟩) (by assumption) ?_
                  rotate_left
                  · (intro w hSw; (try dsimp only at hSw); go_simp; (try with_reducible rfl))
                  try simp only [Act.put, List.setIfInBounds_toArray, List.set_cons_zero, List.set_cons_succ]
                  refine wpAnyH_done (by kernel_rfl) ?_ _
                  have HZ := Lib.hid hHeld.2.2.out
                  clear hHeld
                  go_wp2_with fail
                  go_ret
                  exact ⟨rfl, below_next HB1.out HZ.out⟩
end Go.Proofs.YtlgfickhkejdjaaGreatDoor
