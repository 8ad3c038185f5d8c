/-
  Trees of the language: the program's ValidExpr, walked.
-/
import Derived.Test.YtlgfickhkejdjaaGreatDoorMTrProgA
namespace Go.Proofs.YtlgfickhkejdjaaGreatDoor
open Go.RowKit

set_option maxRecDepth 100000 in
set_option maxHeartbeats 40000000 in
theorem validExpr_any : ∀ (d : Nat) (e : Tr.E) (a : Value) (w : World), e.deep ≤ d → LexEnv w → BdE e → SlE w a e.args →
    Calls Tryz.prog 13 #[exprV e a] w fun r w' => r = .returned (.bool (Tr.validE e)) ∧ Below w.heap.size w w' := by
  intro d
  induction d with
  | zero => intro e a w hd; have := e.deep_pos; omega
  | succ d ih =>
    intro e a w hd hE hB hS
    obtain ⟨k, o, i, nm, at_, l⟩ := e
    have hsz : nm.size ≤ maxLen := hB.name
    have hk := hB.kind
    have ho := hB.op
    have hi := hB.int
    have hS' : SlE w a l := hS
    obtain ⟨p, c, rfl, _⟩ := hS'.form
    have hll := hS'.len
    unfold maxLen at hll
    obtain ⟨N, hN⟩ : ∃ N, l.length = N := ⟨_, rfl⟩
    rw [hN] at hS' hll ⊢
    have hbx := below_box w (.cells #[.int .i64 k, .int .i64 o, .int .i64 i, .string nm, .bool at_, .slice p N c] 24)
    have HS := Lib.hid (hS'.keep hbx)
    have HN := Lib.hid hN
    have HD := Lib.hid hd
    have HIH := Lib.hid ih
    have HB := Lib.hid hbx
    have HC := Lib.hid (boxE_cell w k o i nm at_ (.slice p N c))
    have KV : Hid (∀ W, Below w.heap.size w W → Calls Tryz.prog 38 #[.string nm] W fun e w' => e = .returned (.bool (Tr.varB nm)) ∧ Below W.heap.size W w') := fun W hb => isVariable_any nm W (hE.keep hb) hsz
    have KC : Hid (∀ W, Below w.heap.size w W → Calls Tryz.prog 39 #[.string nm] W fun e w' => e = .returned (.bool (Tr.clsB nm)) ∧ Below W.heap.size W w') := fun W hb => isClass_any nm W (hE.keep hb) hsz
    have HE := Lib.hid (hE.keep hbx)
    have hval : Hid (Tr.validE (.mk k o i nm at_ l) = (Tr.validEs l && Tr.okE k o i nm at_ N)) := by rw [Tr.validE, hN]; exact rfl
    unfold exprV
    simp only [Tr.E.kind, Tr.E.op, Tr.E.int, Tr.E.name, Tr.E.at_]
    obtain ⟨w1, hw1⟩ : ∃ w1, w1 = w.alloc (.cells #[.int .i64 k, .int .i64 o, .int .i64 i, .string nm, .bool at_, .slice p N c] 24) := ⟨_, rfl⟩
    rw [← hw1] at HS HB HC HE
    clear hE hS hS' hB hN hd ih hbx hsz
    go_enter Tryz.func13, Tryz.ntmps13
    go_wp2
    rw [← hw1]
    clear hw1
    go_loopw [9] (fun s3 wr => ∃ j : Nat, s3 = .int .i64 j ∧ j ≤ N ∧ (∀ t x, t < j → l[t]? = some x → Tr.validE x = true) ∧ Below w1.heap.size w1 wr) (fun s3 _ => N - (intOf s3).toNat)
    case atStart => exact ⟨0, rfl, Nat.zero_le _, fun t x ht => by omega, Below.refl _ _⟩
    case round =>
      obtain ⟨j, rfl, hj, hall, hbr⟩ := hrel
      have HA := Lib.hid hall
      have HBR := Lib.hid hbr
      have c0 := cell_keep' hbr (HC.out 0 _ rfl)
      have c1 := cell_keep' hbr (HC.out 1 _ rfl)
      have c2 := cell_keep' hbr (HC.out 2 _ rfl)
      have c3 := cell_keep' hbr (HC.out 3 _ rfl)
      have c4 := cell_keep' hbr (HC.out 4 _ rfl)
      have c5 := cell_keep' hbr (HC.out 5 _ rfl)
      clear hall
      by_cases hlt : j < N
      · obtain ⟨x, hx⟩ : ∃ x, l[j]? = some x := ⟨_, List.getElem?_eq_getElem (by rw [HN.out]; exact hlt)⟩
        obtain ⟨b, oo, aa, rfl, hblt, hc, hbd, hsl⟩ := (HS.out.keep hbr).get hx
        obtain ⟨x0, x1, x2, x3, x4, x5⟩ := hc
        obtain ⟨pa, ca, rfl, _⟩ := hsl.form
        obtain ⟨AN, hAN⟩ : ∃ N, x.args.length = N := ⟨_, rfl⟩
        rw [hAN] at hsl x5
        have hbx := below_box wr (.cells #[.int .i64 x.kind, .int .i64 x.op, .int .i64 x.int, .string x.name, .bool x.at_, .slice pa AN ca] 24)
        have hcall := HIH.out x (.slice pa AN ca) _ (Tr.E.deep_args HD.out (e := .mk k o i nm at_ l) hx) ((HE.out.keep hbr).keep hbx) hbd (hsl.keep hbx)
        unfold exprV at hcall
        have HX := Lib.hid hx
        have HBX := Lib.hid (below_next HBR.out hbx)
        clear hx hbd hsl hbr c0 c1 c2 c3 c4 hAN hbx
        cases hv : Tr.validE x
        · rw [hv] at hcall
          have HCL := Lib.hid hcall
          have hf := Lib.hid (show Tr.validE (.mk k o i nm at_ l) = false by rw [hval.out, validEs_at HX.out hv]; rfl)
          clear hcall hv
          go_wp2_with fail
          refine HCL.out.mono ?_
          rintro e w2 ⟨rfl, hb2⟩
          go_wp2_with fail
          go_ret
          exact ⟨by rw [hf.out]; rfl, HB.out.trans ((below_next HBX.out hb2).mono HB.out.size)⟩
        · rw [hv] at hcall
          have HCL := Lib.hid hcall
          have HV := Lib.hid hv
          clear hcall hv
          go_wp2_with fail
          refine HCL.out.mono ?_
          rintro e w2 ⟨rfl, hb2⟩
          go_wp2_with fail
          go_roundw
          case rel =>
            refine ⟨j + 1, by go_num, by omega, fun t y ht hty => ?_, below_next HBX.out hb2⟩
            by_cases e : t = j
            · subst e; rw [HX.out] at hty; cases hty; exact HV.out
            · exact HA.out t y (by omega) hty
          case measure => simp [intOf]; omega
      · have hes : Hid (Tr.validEs l = true) := validEs_yes HN.out (fun t x ht => HA.out t x (by omega))
        have HBF := Lib.hid (HB.out.trans (HBR.out.mono HB.out.size))
        clear hbr
        by_cases hb1 : k ≠ 0 ∧ i ≠ 0
        · obtain ⟨q1, q2⟩ := hb1
          have hf : Hid (Tr.validE _ = false) := hval.out.trans (by rw [hes.out, Bool.true_and]; simp [Tr.okE, q1, q2])
          have h10 : (k != 0) = true := by rw [bne_iff_ne]; exact q1
          have h11 : (i != 0) = true := by rw [bne_iff_ne]; exact q2
          clear q1 q2
          go_wp2_with fail
          go_ret
          exact ⟨by rw [hf.out]; rfl, HBF.out⟩
        · by_cases hb2 : k ≠ 10 ∧ o ≠ 0
          · obtain ⟨q1, q2⟩ := hb2
            by_cases hk0 : k = 0
            · subst hk0
              have hf : Hid (Tr.validE _ = false) := hval.out.trans (by rw [hes.out, Bool.true_and]; simp [Tr.okE, q2])
              have h11 : (o != 0) = true := by rw [bne_iff_ne]; exact q2
              clear hb1 q1 q2
              go_wp2_with fail
              go_ret
              exact ⟨by rw [hf.out]; rfl, HBF.out⟩
            · obtain rfl : i = 0 := by omega
              have hf : Hid (Tr.validE _ = false) := hval.out.trans (by rw [hes.out, Bool.true_and]; simp [Tr.okE, q1, q2])
              have h10 : (k != 0) = true := by rw [bne_iff_ne]; exact hk0
              have h11 : (o != 0) = true := by rw [bne_iff_ne]; exact q2
              have h12 : (k != 10) = true := by rw [bne_iff_ne]; exact q1
              clear hb1 hk0 q1 q2
              go_wp2_with fail
              go_ret
              exact ⟨by rw [hf.out]; rfl, HBF.out⟩
          · by_cases hb3 : k ≠ 5 ∧ at_ = true
            · obtain ⟨q1, rfl⟩ := hb3
              by_cases hk0 : k = 0
              · subst hk0
                obtain rfl : o = 0 := by omega
                have hf : Hid (Tr.validE _ = false) := hval.out.trans (by rw [hes.out, Bool.true_and]; simp [Tr.okE])
                clear hb1 hb2 q1
                go_wp2_with fail
                go_ret
                exact ⟨by rw [hf.out]; rfl, HBF.out⟩
              · obtain rfl : i = 0 := by omega
                by_cases hk10 : k = 10
                · subst hk10
                  have hf : Hid (Tr.validE _ = false) := hval.out.trans (by rw [hes.out, Bool.true_and]; simp [Tr.okE])
                  clear hb1 hb2 q1 hk0
                  go_wp2_with fail
                  go_ret
                  exact ⟨by rw [hf.out]; rfl, HBF.out⟩
                · obtain rfl : o = 0 := by omega
                  have hf : Hid (Tr.validE _ = false) := hval.out.trans (by rw [hes.out, Bool.true_and]; simp [Tr.okE, q1])
                  have h10 : (k != 0) = true := by rw [bne_iff_ne]; exact hk0
                  have h11 : (k != 10) = true := by rw [bne_iff_ne]; exact hk10
                  have h12 : (k != 5) = true := by rw [bne_iff_ne]; exact q1
                  clear hb1 hb2 q1 hk0 hk10
                  go_wp2_with fail
                  go_ret
                  exact ⟨by rw [hf.out]; rfl, HBF.out⟩
            · have hcs : k = 0 ∨ k = 1 ∨ k = 2 ∨ k = 3 ∨ k = 4 ∨ k = 5 ∨ k = 6 ∨ k = 7 ∨ k = 8 ∨ k = 9 ∨ k = 10 ∨ (k < 0 ∨ 10 < k) := by omega
              have hat : k = 5 ∨ at_ = false := by
                by_cases e : k = 5
                · exact .inl e
                · right; cases at_ with
                  | false => rfl
                  | true => exact absurd ⟨e, rfl⟩ hb3
              rcases hcs with rfl | rfl | rfl | rfl | rfl | rfl | rfl | rfl | rfl | rfl | rfl | hcs
              · clear hb3
                obtain rfl : o = 0 := by omega
                obtain rfl : at_ = false := by rcases hat with e | e; exact absurd e (by omega); exact e
                clear hb1 hb2 hat
                by_cases hN0 : N = 0
                · cases hE : nm.toList.isEmpty
                  · skip
                    have hf : Hid (Tr.validE _ = false) := hval.out.trans (by rw [hes.out, Bool.true_and]; rw [okE_0]; exact decide_eq_false (fun h => size_nz hE h.2.1))
                    have hn : ((N : Int) == 0) = true := beq_iff_eq.2 (by omega)
                    have hE2 := hE
                    clear hE
                    go_wp2_with fail
                    go_ret
                    exact ⟨by rw [hf.out]; rfl, HBF.out⟩
                  · by_cases hi0 : i < 0
                    · skip
                      have hf : Hid (Tr.validE _ = false) := hval.out.trans (by rw [hes.out, Bool.true_and]; rw [okE_0]; exact decide_eq_false (fun h => by omega))
                      have hn : ((N : Int) == 0) = true := beq_iff_eq.2 (by omega)
                      have hE2 := hE
                      clear hE
                      go_wp2_with fail
                      go_ret
                      exact ⟨by rw [hf.out]; rfl, HBF.out⟩
                    · have hi1 : 0 ≤ i := by omega
                      have hf : Hid (Tr.validE _ = decide (i ≤ 2305843009213693951)) := hval.out.trans (by rw [hes.out, Bool.true_and]; rw [okE_0]; exact decide_eq_decide.2 ⟨fun h => h.2.2.2, fun h => ⟨hN0, isE_eq hE, hi1, h⟩⟩)
                      have hn : ((N : Int) == 0) = true := beq_iff_eq.2 (by omega)
                      have hE2 := hE
                      clear hE hi0
                      go_wp2_with fail
                      go_ret
                      exact ⟨by rw [hf.out]; rfl, HBF.out⟩
                · skip
                  have hf : Hid (Tr.validE _ = false) := hval.out.trans (by rw [hes.out, Bool.true_and]; simp [Tr.okE, hN0])
                  have hn : ((N : Int) == 0) = false := beq_eq_false_iff_ne.2 (by omega)
                  clear hN0
                  go_wp2_with fail
                  go_ret
                  exact ⟨by rw [hf.out]; rfl, HBF.out⟩
              · clear hb3
                obtain rfl : i = 0 := by omega
                obtain rfl : o = 0 := by omega
                obtain rfl : at_ = false := by rcases hat with e | e; exact absurd e (by omega); exact e
                clear hb1 hb2 hat
                by_cases hN0 : N = 0
                · skip
                  have hf : Hid (Tr.validE _ = nm.toList.isEmpty) := hval.out.trans (by rw [hes.out, Bool.true_and]; rw [isE_dec]; simp [Tr.okE, hN0])
                  have hn : ((N : Int) == 0) = true := beq_iff_eq.2 (by omega)
                  clear hN0
                  go_wp2_with fail
                  go_ret
                  exact ⟨by rw [hf.out]; rfl, HBF.out⟩
                · skip
                  have hf : Hid (Tr.validE _ = false) := hval.out.trans (by rw [hes.out, Bool.true_and]; simp [Tr.okE, hN0])
                  have hn : ((N : Int) == 0) = false := beq_eq_false_iff_ne.2 (by omega)
                  clear hN0
                  go_wp2_with fail
                  go_ret
                  exact ⟨by rw [hf.out]; rfl, HBF.out⟩
              · clear hb3
                obtain rfl : i = 0 := by omega
                obtain rfl : o = 0 := by omega
                obtain rfl : at_ = false := by rcases hat with e | e; exact absurd e (by omega); exact e
                clear hb1 hb2 hat
                by_cases hN0 : N = 0
                · skip
                  have hf : Hid (Tr.validE _ = nm.toList.isEmpty) := hval.out.trans (by rw [hes.out, Bool.true_and]; rw [isE_dec]; simp [Tr.okE, hN0])
                  have hn : ((N : Int) == 0) = true := beq_iff_eq.2 (by omega)
                  clear hN0
                  go_wp2_with fail
                  go_ret
                  exact ⟨by rw [hf.out]; rfl, HBF.out⟩
                · skip
                  have hf : Hid (Tr.validE _ = false) := hval.out.trans (by rw [hes.out, Bool.true_and]; simp [Tr.okE, hN0])
                  have hn : ((N : Int) == 0) = false := beq_eq_false_iff_ne.2 (by omega)
                  clear hN0
                  go_wp2_with fail
                  go_ret
                  exact ⟨by rw [hf.out]; rfl, HBF.out⟩
              · clear hb3
                obtain rfl : i = 0 := by omega
                obtain rfl : o = 0 := by omega
                obtain rfl : at_ = false := by rcases hat with e | e; exact absurd e (by omega); exact e
                clear hb1 hb2 hat
                by_cases hN0 : N = 0
                · skip
                  have hf : Hid (Tr.validE _ = Tr.varB nm) := hval.out.trans (by rw [hes.out, Bool.true_and]; simp [Tr.okE, hN0])
                  have hn : ((N : Int) == 0) = true := beq_iff_eq.2 (by omega)
                  clear hN0
                  go_wp2_with fail
                  refine (KV.out _ HBF.out).mono ?_
                  rintro e w2 ⟨rfl, hb2⟩
                  go_wp2_with fail
                  go_ret
                  exact ⟨by rw [hf.out]; rfl, HBF.out.trans (hb2.mono HBF.out.size)⟩
                · skip
                  have hf : Hid (Tr.validE _ = false) := hval.out.trans (by rw [hes.out, Bool.true_and]; simp [Tr.okE, hN0])
                  have hn : ((N : Int) == 0) = false := beq_eq_false_iff_ne.2 (by omega)
                  clear hN0
                  go_wp2_with fail
                  go_ret
                  exact ⟨by rw [hf.out]; rfl, HBF.out⟩
              · clear hb3
                obtain rfl : i = 0 := by omega
                obtain rfl : o = 0 := by omega
                obtain rfl : at_ = false := by rcases hat with e | e; exact absurd e (by omega); exact e
                clear hb1 hb2 hat
                by_cases hN0 : N = 1
                · skip
                  have hf : Hid (Tr.validE _ = Tr.varB nm) := hval.out.trans (by rw [hes.out, Bool.true_and]; simp [Tr.okE, hN0])
                  have hn : ((N : Int) == 1) = true := beq_iff_eq.2 (by omega)
                  clear hN0
                  go_wp2_with fail
                  refine (KV.out _ HBF.out).mono ?_
                  rintro e w2 ⟨rfl, hb2⟩
                  go_wp2_with fail
                  go_ret
                  exact ⟨by rw [hf.out]; rfl, HBF.out.trans (hb2.mono HBF.out.size)⟩
                · skip
                  have hf : Hid (Tr.validE _ = false) := hval.out.trans (by rw [hes.out, Bool.true_and]; simp [Tr.okE, hN0])
                  have hn : ((N : Int) == 1) = false := beq_eq_false_iff_ne.2 (by omega)
                  clear hN0
                  go_wp2_with fail
                  go_ret
                  exact ⟨by rw [hf.out]; rfl, HBF.out⟩
              · clear hb3
                obtain rfl : i = 0 := by omega
                obtain rfl : o = 0 := by omega
                clear hb1 hb2 hat
                cases hq : Tr.clsB nm
                · rw [hq] at KC
                  have hf : Hid (Tr.validE _ = false) := hval.out.trans (by rw [hes.out, Bool.true_and]; simp [Tr.okE, hq])
                  clear hq
                  go_wp2_with fail
                  refine (KC.out _ HBF.out).mono ?_
                  rintro e w2 ⟨rfl, hb2⟩
                  go_wp2_with fail
                  go_ret
                  exact ⟨by rw [hf.out]; rfl, HBF.out.trans (hb2.mono HBF.out.size)⟩
                · rw [hq] at KC
                  cases at_
                  · skip
                    have hf : Hid (Tr.validE _ = true) := hval.out.trans (by rw [hes.out, Bool.true_and]; simp [Tr.okE, hq])
                    clear hq
                    go_wp2_with fail
                    refine (KC.out _ HBF.out).mono ?_
                    rintro e w2 ⟨rfl, hb2⟩
                    have d4 := cell_keep' hb2 c4
                    have HB2 := Lib.hid hb2
                    clear hb2
                    go_wp2_with fail
                    go_ret
                    exact ⟨by rw [hf.out]; rfl, HBF.out.trans (HB2.out.mono HBF.out.size)⟩
                  · skip
                    have hf : Hid (Tr.validE _ = decide (0 < N)) := hval.out.trans (by rw [hes.out, Bool.true_and]; simp [Tr.okE, hq])
                    clear hq
                    go_wp2_with fail
                    refine (KC.out _ HBF.out).mono ?_
                    rintro e w2 ⟨rfl, hb2⟩
                    have d4 := cell_keep' hb2 c4
                    have d5 := cell_keep' hb2 c5
                    have HB2 := Lib.hid hb2
                    clear hb2
                    go_wp2_with fail
                    go_ret
                    exact ⟨by rw [hf.out]; rfl, HBF.out.trans (HB2.out.mono HBF.out.size)⟩
              · clear hb3
                obtain rfl : i = 0 := by omega
                obtain rfl : o = 0 := by omega
                obtain rfl : at_ = false := by rcases hat with e | e; exact absurd e (by omega); exact e
                clear hb1 hb2 hat
                by_cases hN0 : N = 1
                · skip
                  have hf : Hid (Tr.validE _ = nm.toList.isEmpty) := hval.out.trans (by rw [hes.out, Bool.true_and]; rw [isE_dec]; simp [Tr.okE, hN0])
                  have hn : ((N : Int) == 1) = true := beq_iff_eq.2 (by omega)
                  clear hN0
                  go_wp2_with fail
                  go_ret
                  exact ⟨by rw [hf.out]; rfl, HBF.out⟩
                · skip
                  have hf : Hid (Tr.validE _ = false) := hval.out.trans (by rw [hes.out, Bool.true_and]; simp [Tr.okE, hN0])
                  have hn : ((N : Int) == 1) = false := beq_eq_false_iff_ne.2 (by omega)
                  clear hN0
                  go_wp2_with fail
                  go_ret
                  exact ⟨by rw [hf.out]; rfl, HBF.out⟩
              · clear hb3
                obtain rfl : i = 0 := by omega
                obtain rfl : o = 0 := by omega
                obtain rfl : at_ = false := by rcases hat with e | e; exact absurd e (by omega); exact e
                clear hb1 hb2 hat
                by_cases hN0 : N = 1
                · skip
                  have hf : Hid (Tr.validE _ = nm.toList.isEmpty) := hval.out.trans (by rw [hes.out, Bool.true_and]; rw [isE_dec]; simp [Tr.okE, hN0])
                  have hn : ((N : Int) == 1) = true := beq_iff_eq.2 (by omega)
                  clear hN0
                  go_wp2_with fail
                  go_ret
                  exact ⟨by rw [hf.out]; rfl, HBF.out⟩
                · skip
                  have hf : Hid (Tr.validE _ = false) := hval.out.trans (by rw [hes.out, Bool.true_and]; simp [Tr.okE, hN0])
                  have hn : ((N : Int) == 1) = false := beq_eq_false_iff_ne.2 (by omega)
                  clear hN0
                  go_wp2_with fail
                  go_ret
                  exact ⟨by rw [hf.out]; rfl, HBF.out⟩
              · clear hb3
                obtain rfl : i = 0 := by omega
                obtain rfl : o = 0 := by omega
                obtain rfl : at_ = false := by rcases hat with e | e; exact absurd e (by omega); exact e
                clear hb1 hb2 hat
                by_cases hN0 : N = 1
                · skip
                  have hf : Hid (Tr.validE _ = nm.toList.isEmpty) := hval.out.trans (by rw [hes.out, Bool.true_and]; rw [isE_dec]; simp [Tr.okE, hN0])
                  have hn : ((N : Int) == 1) = true := beq_iff_eq.2 (by omega)
                  clear hN0
                  go_wp2_with fail
                  go_ret
                  exact ⟨by rw [hf.out]; rfl, HBF.out⟩
                · skip
                  have hf : Hid (Tr.validE _ = false) := hval.out.trans (by rw [hes.out, Bool.true_and]; simp [Tr.okE, hN0])
                  have hn : ((N : Int) == 1) = false := beq_eq_false_iff_ne.2 (by omega)
                  clear hN0
                  go_wp2_with fail
                  go_ret
                  exact ⟨by rw [hf.out]; rfl, HBF.out⟩
              · clear hb3
                obtain rfl : i = 0 := by omega
                obtain rfl : o = 0 := by omega
                obtain rfl : at_ = false := by rcases hat with e | e; exact absurd e (by omega); exact e
                clear hb1 hb2 hat
                by_cases hN0 : N = 1
                · skip
                  have hf : Hid (Tr.validE _ = nm.toList.isEmpty) := hval.out.trans (by rw [hes.out, Bool.true_and]; rw [isE_dec]; simp [Tr.okE, hN0])
                  have hn : ((N : Int) == 1) = true := beq_iff_eq.2 (by omega)
                  clear hN0
                  go_wp2_with fail
                  go_ret
                  exact ⟨by rw [hf.out]; rfl, HBF.out⟩
                · skip
                  have hf : Hid (Tr.validE _ = false) := hval.out.trans (by rw [hes.out, Bool.true_and]; simp [Tr.okE, hN0])
                  have hn : ((N : Int) == 1) = false := beq_eq_false_iff_ne.2 (by omega)
                  clear hN0
                  go_wp2_with fail
                  go_ret
                  exact ⟨by rw [hf.out]; rfl, HBF.out⟩
              · clear hb3
                obtain rfl : i = 0 := by omega
                obtain rfl : at_ = false := by rcases hat with e | e; exact absurd e (by omega); exact e
                clear hb1 hb2 hat
                by_cases hN0 : N = 2
                · cases hE : nm.toList.isEmpty
                  · skip
                    have hf : Hid (Tr.validE _ = false) := hval.out.trans (by rw [hes.out, Bool.true_and]; rw [okE_10]; exact decide_eq_false (fun h => size_nz hE h.2.1))
                    have hn : ((N : Int) == 2) = true := beq_iff_eq.2 (by omega)
                    have hE2 := hE
                    clear hE
                    go_wp2_with fail
                    go_ret
                    exact ⟨by rw [hf.out]; rfl, HBF.out⟩
                  · by_cases ho0 : o < 0
                    · skip
                      have hf : Hid (Tr.validE _ = false) := hval.out.trans (by rw [hes.out, Bool.true_and]; rw [okE_10]; exact decide_eq_false (fun h => by omega))
                      have hn : ((N : Int) == 2) = true := beq_iff_eq.2 (by omega)
                      have hE2 := hE
                      clear hE
                      go_wp2_with fail
                      go_ret
                      exact ⟨by rw [hf.out]; rfl, HBF.out⟩
                    · have ho1 : 0 ≤ o := by omega
                      have hf : Hid (Tr.validE _ = decide (o < 13)) := hval.out.trans (by rw [hes.out, Bool.true_and]; rw [okE_10]; exact decide_eq_decide.2 ⟨fun h => by omega, fun h => ⟨hN0, isE_eq hE, ho1, by omega⟩⟩)
                      have hn : ((N : Int) == 2) = true := beq_iff_eq.2 (by omega)
                      have hE2 := hE
                      clear hE ho0
                      go_wp2_with fail
                      go_ret
                      exact ⟨by rw [hf.out]; rfl, HBF.out⟩
                · skip
                  have hf : Hid (Tr.validE _ = false) := hval.out.trans (by rw [hes.out, Bool.true_and]; simp [Tr.okE, hN0])
                  have hn : ((N : Int) == 2) = false := beq_eq_false_iff_ne.2 (by omega)
                  clear hN0
                  go_wp2_with fail
                  go_ret
                  exact ⟨by rw [hf.out]; rfl, HBF.out⟩
              · clear hb3
                obtain rfl : i = 0 := by omega
                obtain rfl : o = 0 := by omega
                obtain rfl : at_ = false := by rcases hat with e | e; exact absurd e (by omega); exact e
                clear hb1 hb2 hat
                have hf : Hid (Tr.validE _ = false) := hval.out.trans (by rw [hes.out, Bool.true_and]; exact okE_other hcs)
                have e0 : (k == 0) = false := beq_eq_false_iff_ne.2 (by omega)
                have e1 : (k == 1) = false := beq_eq_false_iff_ne.2 (by omega)
                have e2 : (k == 2) = false := beq_eq_false_iff_ne.2 (by omega)
                have e3 : (k == 3) = false := beq_eq_false_iff_ne.2 (by omega)
                have e4 : (k == 4) = false := beq_eq_false_iff_ne.2 (by omega)
                have e5 : (k == 5) = false := beq_eq_false_iff_ne.2 (by omega)
                have e6 : (k == 6) = false := beq_eq_false_iff_ne.2 (by omega)
                have e7 : (k == 7) = false := beq_eq_false_iff_ne.2 (by omega)
                have e8 : (k == 8) = false := beq_eq_false_iff_ne.2 (by omega)
                have e9 : (k == 9) = false := beq_eq_false_iff_ne.2 (by omega)
                have e10 : (k == 10) = false := beq_eq_false_iff_ne.2 (by omega)
                have h10 : (k != 0) = true := by rw [bne_iff_ne]; omega
                have h11 : (k != 10) = true := by rw [bne_iff_ne]; omega
                have h12 : (k != 5) = true := by rw [bne_iff_ne]; omega
                clear hcs
                go_wp2_with fail
                go_ret
                exact ⟨by rw [hf.out]; rfl, HBF.out⟩
end Go.Proofs.YtlgfickhkejdjaaGreatDoor
