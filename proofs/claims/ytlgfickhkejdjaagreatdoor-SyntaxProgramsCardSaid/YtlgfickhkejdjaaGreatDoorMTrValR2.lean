/-
  Trees of the language: the reference's ValidStmt and block, walked.
-/
import Derived.Test.YtlgfickhkejdjaaGreatDoorMTrValR
namespace Go.Proofs.YtlgfickhkejdjaaGreatDoor
open Go.RowKit

/-- what a block's check is -/
def BlockR (l : List Tr.S) : Prop := ∀ (v : Value) (w : World), SlS w v l → Calls Tryz.prog 57 #[v] w fun r w' => r = .returned (.bool (Tr.validSs l)) ∧ Below w.heap.size w w'

set_option maxRecDepth 100000 in
set_option maxHeartbeats 40000000 in
theorem validStmtR_of (s : Tr.S) (x y z : Value) (w : World) (hkb : BdS s) (hx : SlE w x s.exprs) (hy : SlS w y s.body) (hz : SlS w z s.els) (h1 : BlockR s.body) (h2 : BlockR s.els) :
    Calls Tryz.prog 91 #[stmtV s x y z] w fun r w' => r = .returned (.bool (Tr.validS s)) ∧ Below w.heap.size w w' := by
  obtain ⟨k, nm, l, b, els⟩ := s
  have hsz : nm.size ≤ maxLen := hkb.name
  have hx' : SlE w x l := hx
  have hy' : SlS w y b := hy
  have hz' : SlS w z els := hz
  obtain ⟨p, c, rfl, _⟩ := hx'.form
  obtain ⟨py, cy, rfl, _⟩ := hy'.form
  obtain ⟨pz, cz, rfl, _⟩ := hz'.form
  have hll := hx'.len
  have hlb := hy'.len
  have hle := hz'.len
  unfold maxLen at hll hlb hle
  obtain ⟨X, hX⟩ : ∃ N, l.length = N := ⟨_, rfl⟩
  obtain ⟨NB, hNB⟩ : ∃ N, b.length = N := ⟨_, rfl⟩
  obtain ⟨NE, hNE⟩ : ∃ N, els.length = N := ⟨_, rfl⟩
  rw [hX] at hx' hll ⊢
  rw [hNB] at hy' hlb ⊢
  rw [hNE] at hz' hle ⊢
  have hbx := below_box w (.cells #[.int .i64 k, .string nm, .slice p X c, .slice py NB cy, .slice pz NE cz] 46)
  have HS := Lib.hid (hx'.keep hbx)
  have HN := Lib.hid hX
  have HB := Lib.hid hbx
  have HC := Lib.hid (fun j u h => box_cell w #[.int .i64 k, .string nm, .slice p X c, .slice py NB cy, .slice pz NE cz] 46 j u h)
  have KV : Hid (∀ W, Calls Tryz.prog 40 #[.string nm] W fun e w' => e = .returned (.bool (Tr.varB nm)) ∧ Below W.heap.size W w') := fun W => variable_any nm W hsz
  obtain ⟨qb1, hq1⟩ : ∃ q, Tr.validSs b = q := ⟨_, rfl⟩
  obtain ⟨qb2, hq2⟩ : ∃ q, Tr.validSs els = q := ⟨_, rfl⟩
  have KB1 : Hid (∀ W, Below w.heap.size w W → Calls Tryz.prog 57 #[.slice py NB cy] W fun e w' => e = .returned (.bool qb1) ∧ Below W.heap.size W w') := fun W hb => by
    have := h1 _ W (hy'.keep hb)
    have e : Tr.validSs (Tr.S.mk k nm l b els).body = qb1 := hq1
    rw [e] at this; exact this
  have KB2 : Hid (∀ W, Below w.heap.size w W → Calls Tryz.prog 57 #[.slice pz NE cz] W fun e w' => e = .returned (.bool qb2) ∧ Below W.heap.size W w') := fun W hb => by
    have := h2 _ W (hz'.keep hb)
    have e : Tr.validSs (Tr.S.mk k nm l b els).els = qb2 := hq2
    rw [e] at this; exact this
  have hb1e := Lib.hid hq1
  have hb2e := Lib.hid hq2
  have hval : Hid (Tr.validS (.mk k nm l b els) = (Tr.validEs l && (Tr.okS k nm X NB NE && Tr.validSs b && Tr.validSs els))) := by rw [Tr.validS, hX, hNB, hNE]; show (_ && _ && _ && _) = _; rw [Bool.and_assoc, Bool.and_assoc, Bool.and_assoc]
  unfold stmtV
  simp only [Tr.S.kind, Tr.S.name]
  obtain ⟨w1, hw1⟩ : ∃ w1, w1 = w.alloc (.cells #[.int .i64 k, .string nm, .slice p X c, .slice py NB cy, .slice pz NE cz] 46) := ⟨_, rfl⟩
  rw [← hw1] at HS HB HC
  clear hx hx' hy hy' hz hz' h1 h2 hkb hX hNB hNE hbx hsz hq1 hq2
  go_enter Tryz.func91, Tryz.ntmps91
  go_wp2
  rw [← hw1]
  clear hw1
  go_loopw [3] (fun s3 wr => ∃ j : Nat, s3 = .int .i64 j ∧ j ≤ X ∧ (∀ t x, t < j → l[t]? = some x → Tr.validE x = true) ∧ Below w1.heap.size w1 wr) (fun s3 _ => X - (intOf s3).toNat)
  case atStart => exact ⟨0, rfl, Nat.zero_le _, fun t x ht => by omega, Below.refl _ _⟩
  case round =>
    obtain ⟨j, rfl, hj, hall, hbr⟩ := hrel
    have HA := Lib.hid hall
    have HBR := Lib.hid hbr
    have c0 := cell_keep' hbr (HC.out 0 _ rfl)
    have c1 := cell_keep' hbr (HC.out 1 _ rfl)
    have c2 := cell_keep' hbr (HC.out 2 _ rfl)
    have c3 := cell_keep' hbr (HC.out 3 _ rfl)
    have c4 := cell_keep' hbr (HC.out 4 _ rfl)
    clear hall
    by_cases hlt : j < X
    · obtain ⟨x, hx⟩ : ∃ x, l[j]? = some x := ⟨_, List.getElem?_eq_getElem (by rw [HN.out]; exact hlt)⟩
      obtain ⟨bb, oo, aa, rfl, hblt, hc, hbd, hsl⟩ := (HS.out.keep hbr).get hx
      obtain ⟨x0, x1, x2, x3, x4, x5⟩ := hc
      have hcall := validExprR_any _ x aa wr (Nat.le_refl _) hbd hsl
      unfold exprV at hcall
      have HX := Lib.hid hx
      clear hx hbd hsl hbr c0 c1 c3 c4
      cases hv : Tr.validE x
      · rw [hv] at hcall
        have HCL := Lib.hid hcall
        have hf := Lib.hid (show Tr.validS (.mk k nm l b els) = false by rw [hval.out, validEs_at HX.out hv]; rfl)
        clear hcall hv
        go_wp2_with fail
        refine HCL.out.mono ?_
        rintro e w2 ⟨rfl, hb2⟩
        go_wp2_with fail
        go_ret
        exact ⟨by rw [hf.out]; rfl, HB.out.trans ((below_next HBR.out hb2).mono HB.out.size)⟩
      · rw [hv] at hcall
        have HCL := Lib.hid hcall
        have HV := Lib.hid hv
        clear hcall hv
        go_wp2_with fail
        refine HCL.out.mono ?_
        rintro e w2 ⟨rfl, hb2⟩
        go_wp2_with fail
        go_roundw
        case rel =>
          refine ⟨j + 1, by go_num, by omega, fun t y ht hty => ?_, below_next HBR.out hb2⟩
          by_cases e : t = j
          · subst e; rw [HX.out] at hty; cases hty; exact HV.out
          · exact HA.out t y (by omega) hty
        case measure => simp [intOf]; omega
    · have hes : Hid (Tr.validEs l = true) := validEs_yes HN.out (fun t x ht => HA.out t x (by omega))
      have HBF := Lib.hid (HB.out.trans (HBR.out.mono HB.out.size))
      have HBX := HBF
      clear hbr
      have hcs : k = 0 ∨ k = 1 ∨ k = 2 ∨ k = 3 ∨ k = 4 ∨ k = 5 ∨ k = 6 ∨ k = 7 ∨ k = 8 ∨ k = 9 ∨ (k < 0 ∨ 9 < k) := by omega
      rcases hcs with rfl | rfl | rfl | rfl | rfl | rfl | rfl | rfl | rfl | rfl | hcs
      · skip
        by_cases hX : X = 1
        · have hX' : ((X : Int) == 1) = true := beq_iff_eq.2 (by omega)
          cases hv : Tr.varB nm
          · rw [hv] at KV
            have hf : Hid (Tr.validS _ = false) := hval.out.trans (by rw [hes.out, Bool.true_and]; rw [okS_0, hv, Bool.and_false]; rfl)
            clear hv
            go_wp2_with fail
            refine (KV.out _).mono ?_
            rintro e w2 ⟨rfl, hb2⟩
            go_wp2_with fail
            go_ret
            exact ⟨by rw [hf.out]; rfl, below_next HBF.out hb2⟩
          · rw [hv] at KV
            have hvt := Lib.hid hv
            clear hv
            have hXk := hX'
            by_cases hnb : 0 < NB
            · skip
              have hf : Hid (Tr.validS _ = false) := hval.out.trans (by rw [hes.out, Bool.true_and]; rw [okS_0, decide_eq_false (fun h => by omega)]; rfl)
              go_wp2_with fail
              refine (KV.out _).mono ?_
              rintro e w2 ⟨rfl, hb2⟩
              have d3 := cell_keep' hb2 c3
              have HB2 := Lib.hid hb2
              clear hb2
              go_wp2_with fail
              go_ret
              exact ⟨by rw [hf.out]; rfl, below_next HBF.out HB2.out⟩
            · have hnb' : NB ≤ 0 := by omega
              by_cases hne : 0 < NE
              · skip
                have hf : Hid (Tr.validS _ = false) := hval.out.trans (by rw [hes.out, Bool.true_and]; rw [okS_0, decide_eq_false (fun h => by omega)]; rfl)
                go_wp2_with fail
                refine (KV.out _).mono ?_
                rintro e w2 ⟨rfl, hb2⟩
                have d3 := cell_keep' hb2 c3
                have d4 := cell_keep' hb2 c4
                have HB2 := Lib.hid hb2
                clear hb2
                go_wp2_with fail
                go_ret
                exact ⟨by rw [hf.out]; rfl, below_next HBF.out HB2.out⟩
              · have hne' : NE ≤ 0 := by omega
                have hok : Hid (Tr.validS _ = (qb1 && qb2)) := hval.out.trans (by rw [hes.out, Bool.true_and, hb1e.out, hb2e.out, show Tr.okS 0 nm X NB NE = true by rw [okS_0, hvt.out, Bool.and_true]; exact decide_eq_true ⟨by omega, by omega, by omega⟩]; rfl)
                cases qb1
                · skip
                  go_wp2_with fail
                  refine (KV.out _).mono ?_
                  rintro e w2 ⟨rfl, hb2⟩
                  have d3 := cell_keep' hb2 c3
                  have d4 := cell_keep' hb2 c4
                  have HB2 := Lib.hid hb2
                  have HBX2 := Lib.hid (below_next HBX.out hb2)
                  clear hb2
                  go_wp2_with fail
                  refine (KB1.out _ HBX2.out).mono ?_
                  rintro e w3 ⟨rfl, hb3⟩
                  go_wp2_with fail
                  go_ret
                  exact ⟨by rw [hok.out]; rfl, below_next (below_next HBF.out HB2.out) hb3⟩
                · skip
                  go_wp2_with fail
                  refine (KV.out _).mono ?_
                  rintro e w2 ⟨rfl, hb2⟩
                  have d3 := cell_keep' hb2 c3
                  have d4 := cell_keep' hb2 c4
                  have HB2 := Lib.hid hb2
                  have HBX2 := Lib.hid (below_next HBX.out hb2)
                  clear hb2
                  go_wp2_with fail
                  refine (KB1.out _ HBX2.out).mono ?_
                  rintro e w3 ⟨rfl, hb3⟩
                  have f4 := cell_keep' hb3 d4
                  have HB3 := Lib.hid hb3
                  have HBX3 := Lib.hid (below_next HBX2.out hb3)
                  clear hb3
                  go_wp2_with fail
                  refine (KB2.out _ HBX3.out).mono ?_
                  rintro e w4 ⟨rfl, hb4⟩
                  go_wp2_with fail
                  go_ret
                  exact ⟨by rw [hok.out]; rfl, below_next (below_next (below_next HBF.out HB2.out) HB3.out) hb4⟩
        · have hX' : ((X : Int) == 1) = false := beq_eq_false_iff_ne.2 (by omega)
          have hf : Hid (Tr.validS _ = false) := hval.out.trans (by rw [hes.out, Bool.true_and]; rw [okS_0, decide_eq_false (fun h => by omega)]; rfl)
          clear hX
          go_wp2_with fail
          go_ret
          exact ⟨by rw [hf.out]; rfl, HBF.out⟩
      · skip
        by_cases hX : X = 1
        · have hX' : ((X : Int) == 1) = true := beq_iff_eq.2 (by omega)
          cases hv : Tr.varB nm
          · rw [hv] at KV
            have hf : Hid (Tr.validS _ = false) := hval.out.trans (by rw [hes.out, Bool.true_and]; rw [okS_1, hv, Bool.and_false]; rfl)
            clear hv
            go_wp2_with fail
            refine (KV.out _).mono ?_
            rintro e w2 ⟨rfl, hb2⟩
            go_wp2_with fail
            go_ret
            exact ⟨by rw [hf.out]; rfl, below_next HBF.out hb2⟩
          · rw [hv] at KV
            have hvt := Lib.hid hv
            clear hv
            have hXk := hX'
            by_cases hnb : 0 < NB
            · skip
              have hf : Hid (Tr.validS _ = false) := hval.out.trans (by rw [hes.out, Bool.true_and]; rw [okS_1, decide_eq_false (fun h => by omega)]; rfl)
              go_wp2_with fail
              refine (KV.out _).mono ?_
              rintro e w2 ⟨rfl, hb2⟩
              have d3 := cell_keep' hb2 c3
              have HB2 := Lib.hid hb2
              clear hb2
              go_wp2_with fail
              go_ret
              exact ⟨by rw [hf.out]; rfl, below_next HBF.out HB2.out⟩
            · have hnb' : NB ≤ 0 := by omega
              by_cases hne : 0 < NE
              · skip
                have hf : Hid (Tr.validS _ = false) := hval.out.trans (by rw [hes.out, Bool.true_and]; rw [okS_1, decide_eq_false (fun h => by omega)]; rfl)
                go_wp2_with fail
                refine (KV.out _).mono ?_
                rintro e w2 ⟨rfl, hb2⟩
                have d3 := cell_keep' hb2 c3
                have d4 := cell_keep' hb2 c4
                have HB2 := Lib.hid hb2
                clear hb2
                go_wp2_with fail
                go_ret
                exact ⟨by rw [hf.out]; rfl, below_next HBF.out HB2.out⟩
              · have hne' : NE ≤ 0 := by omega
                have hok : Hid (Tr.validS _ = (qb1 && qb2)) := hval.out.trans (by rw [hes.out, Bool.true_and, hb1e.out, hb2e.out, show Tr.okS 1 nm X NB NE = true by rw [okS_1, hvt.out, Bool.and_true]; exact decide_eq_true ⟨by omega, by omega, by omega⟩]; rfl)
                cases qb1
                · skip
                  go_wp2_with fail
                  refine (KV.out _).mono ?_
                  rintro e w2 ⟨rfl, hb2⟩
                  have d3 := cell_keep' hb2 c3
                  have d4 := cell_keep' hb2 c4
                  have HB2 := Lib.hid hb2
                  have HBX2 := Lib.hid (below_next HBX.out hb2)
                  clear hb2
                  go_wp2_with fail
                  refine (KB1.out _ HBX2.out).mono ?_
                  rintro e w3 ⟨rfl, hb3⟩
                  go_wp2_with fail
                  go_ret
                  exact ⟨by rw [hok.out]; rfl, below_next (below_next HBF.out HB2.out) hb3⟩
                · skip
                  go_wp2_with fail
                  refine (KV.out _).mono ?_
                  rintro e w2 ⟨rfl, hb2⟩
                  have d3 := cell_keep' hb2 c3
                  have d4 := cell_keep' hb2 c4
                  have HB2 := Lib.hid hb2
                  have HBX2 := Lib.hid (below_next HBX.out hb2)
                  clear hb2
                  go_wp2_with fail
                  refine (KB1.out _ HBX2.out).mono ?_
                  rintro e w3 ⟨rfl, hb3⟩
                  have f4 := cell_keep' hb3 d4
                  have HB3 := Lib.hid hb3
                  have HBX3 := Lib.hid (below_next HBX2.out hb3)
                  clear hb3
                  go_wp2_with fail
                  refine (KB2.out _ HBX3.out).mono ?_
                  rintro e w4 ⟨rfl, hb4⟩
                  go_wp2_with fail
                  go_ret
                  exact ⟨by rw [hok.out]; rfl, below_next (below_next (below_next HBF.out HB2.out) HB3.out) hb4⟩
        · have hX' : ((X : Int) == 1) = false := beq_eq_false_iff_ne.2 (by omega)
          have hf : Hid (Tr.validS _ = false) := hval.out.trans (by rw [hes.out, Bool.true_and]; rw [okS_1, decide_eq_false (fun h => by omega)]; rfl)
          clear hX
          go_wp2_with fail
          go_ret
          exact ⟨by rw [hf.out]; rfl, HBF.out⟩
      · skip
        by_cases hX : X = 2
        · have hX' : ((X : Int) == 2) = true := beq_iff_eq.2 (by omega)
          cases hv : Tr.varB nm
          · rw [hv] at KV
            have hf : Hid (Tr.validS _ = false) := hval.out.trans (by rw [hes.out, Bool.true_and]; rw [okS_2, hv, Bool.and_false]; rfl)
            clear hv
            go_wp2_with fail
            refine (KV.out _).mono ?_
            rintro e w2 ⟨rfl, hb2⟩
            go_wp2_with fail
            go_ret
            exact ⟨by rw [hf.out]; rfl, below_next HBF.out hb2⟩
          · rw [hv] at KV
            have hvt := Lib.hid hv
            clear hv
            have hXk := hX'
            by_cases hnb : 0 < NB
            · skip
              have hf : Hid (Tr.validS _ = false) := hval.out.trans (by rw [hes.out, Bool.true_and]; rw [okS_2, decide_eq_false (fun h => by omega)]; rfl)
              go_wp2_with fail
              refine (KV.out _).mono ?_
              rintro e w2 ⟨rfl, hb2⟩
              have d3 := cell_keep' hb2 c3
              have HB2 := Lib.hid hb2
              clear hb2
              go_wp2_with fail
              go_ret
              exact ⟨by rw [hf.out]; rfl, below_next HBF.out HB2.out⟩
            · have hnb' : NB ≤ 0 := by omega
              by_cases hne : 0 < NE
              · skip
                have hf : Hid (Tr.validS _ = false) := hval.out.trans (by rw [hes.out, Bool.true_and]; rw [okS_2, decide_eq_false (fun h => by omega)]; rfl)
                go_wp2_with fail
                refine (KV.out _).mono ?_
                rintro e w2 ⟨rfl, hb2⟩
                have d3 := cell_keep' hb2 c3
                have d4 := cell_keep' hb2 c4
                have HB2 := Lib.hid hb2
                clear hb2
                go_wp2_with fail
                go_ret
                exact ⟨by rw [hf.out]; rfl, below_next HBF.out HB2.out⟩
              · have hne' : NE ≤ 0 := by omega
                have hok : Hid (Tr.validS _ = (qb1 && qb2)) := hval.out.trans (by rw [hes.out, Bool.true_and, hb1e.out, hb2e.out, show Tr.okS 2 nm X NB NE = true by rw [okS_2, hvt.out, Bool.and_true]; exact decide_eq_true ⟨by omega, by omega, by omega⟩]; rfl)
                cases qb1
                · skip
                  go_wp2_with fail
                  refine (KV.out _).mono ?_
                  rintro e w2 ⟨rfl, hb2⟩
                  have d3 := cell_keep' hb2 c3
                  have d4 := cell_keep' hb2 c4
                  have HB2 := Lib.hid hb2
                  have HBX2 := Lib.hid (below_next HBX.out hb2)
                  clear hb2
                  go_wp2_with fail
                  refine (KB1.out _ HBX2.out).mono ?_
                  rintro e w3 ⟨rfl, hb3⟩
                  go_wp2_with fail
                  go_ret
                  exact ⟨by rw [hok.out]; rfl, below_next (below_next HBF.out HB2.out) hb3⟩
                · skip
                  go_wp2_with fail
                  refine (KV.out _).mono ?_
                  rintro e w2 ⟨rfl, hb2⟩
                  have d3 := cell_keep' hb2 c3
                  have d4 := cell_keep' hb2 c4
                  have HB2 := Lib.hid hb2
                  have HBX2 := Lib.hid (below_next HBX.out hb2)
                  clear hb2
                  go_wp2_with fail
                  refine (KB1.out _ HBX2.out).mono ?_
                  rintro e w3 ⟨rfl, hb3⟩
                  have f4 := cell_keep' hb3 d4
                  have HB3 := Lib.hid hb3
                  have HBX3 := Lib.hid (below_next HBX2.out hb3)
                  clear hb3
                  go_wp2_with fail
                  refine (KB2.out _ HBX3.out).mono ?_
                  rintro e w4 ⟨rfl, hb4⟩
                  go_wp2_with fail
                  go_ret
                  exact ⟨by rw [hok.out]; rfl, below_next (below_next (below_next HBF.out HB2.out) HB3.out) hb4⟩
        · have hX' : ((X : Int) == 2) = false := beq_eq_false_iff_ne.2 (by omega)
          have hf : Hid (Tr.validS _ = false) := hval.out.trans (by rw [hes.out, Bool.true_and]; rw [okS_2, decide_eq_false (fun h => by omega)]; rfl)
          clear hX
          go_wp2_with fail
          go_ret
          exact ⟨by rw [hf.out]; rfl, HBF.out⟩
      · skip
        by_cases hX : X = 1
        · have hX' : ((X : Int) == 1) = true := beq_iff_eq.2 (by omega)
          cases hE : nm.toList.isEmpty
          · have hE2 := hE
            have hf : Hid (Tr.validS _ = false) := hval.out.trans (by rw [hes.out, Bool.true_and]; rw [okS_3, decide_eq_false (fun h => size_nz hE (by omega))]; rfl)
            clear hE
            go_wp2_with fail
            go_ret
            exact ⟨by rw [hf.out]; rfl, HBF.out⟩
          · have hsz0 := Lib.hid (isE_eq hE)
            by_cases hnb : True
            · skip
              have hok : Hid (Tr.validS _ = (qb1 && qb2)) := hval.out.trans (by rw [hes.out, Bool.true_and, hb1e.out, hb2e.out, show Tr.okS 3 nm X NB NE = true by rw [okS_3]; exact decide_eq_true ⟨by omega, hsz0.out⟩]; rfl)
              cases qb1
              · go_wp2_with fail
                refine (KB1.out _ HBX.out).mono ?_
                rintro e w3 ⟨rfl, hb3⟩
                go_wp2_with fail
                go_ret
                exact ⟨by rw [hok.out]; rfl, below_next HBF.out hb3⟩
              · go_wp2_with fail
                refine (KB1.out _ HBX.out).mono ?_
                rintro e w3 ⟨rfl, hb3⟩
                have f4 := cell_keep' hb3 c4
                have HB3 := Lib.hid (below_next HBF.out hb3)
                have HBX3 := Lib.hid (below_next HBX.out hb3)
                clear hb3
                go_wp2_with fail
                refine (KB2.out _ HBX3.out).mono ?_
                rintro e w4 ⟨rfl, hb4⟩
                go_wp2_with fail
                go_ret
                exact ⟨by rw [hok.out]; rfl, below_next HB3.out hb4⟩
            · exact absurd trivial hnb
        · have hX' : ((X : Int) == 1) = false := beq_eq_false_iff_ne.2 (by omega)
          have hf : Hid (Tr.validS _ = false) := hval.out.trans (by rw [hes.out, Bool.true_and]; rw [okS_3, decide_eq_false (fun h => by omega)]; rfl)
          clear hX
          go_wp2_with fail
          go_ret
          exact ⟨by rw [hf.out]; rfl, HBF.out⟩
      · skip
        by_cases hX : X = 1
        · have hX' : ((X : Int) == 1) = true := beq_iff_eq.2 (by omega)
          cases hE : nm.toList.isEmpty
          · have hE2 := hE
            have hf : Hid (Tr.validS _ = false) := hval.out.trans (by rw [hes.out, Bool.true_and]; rw [okS_4, decide_eq_false (fun h => size_nz hE (by omega))]; rfl)
            clear hE
            go_wp2_with fail
            go_ret
            exact ⟨by rw [hf.out]; rfl, HBF.out⟩
          · have hsz0 := Lib.hid (isE_eq hE)
            by_cases hnb : True
            · skip
              by_cases hne : 0 < NE
              · skip
                have hf : Hid (Tr.validS _ = false) := hval.out.trans (by rw [hes.out, Bool.true_and]; rw [okS_4, decide_eq_false (fun h => by omega)]; rfl)
                go_wp2_with fail
                go_ret
                exact ⟨by rw [hf.out]; rfl, HBF.out⟩
              · have hne' : NE ≤ 0 := by omega
                have hok : Hid (Tr.validS _ = (qb1 && qb2)) := hval.out.trans (by rw [hes.out, Bool.true_and, hb1e.out, hb2e.out, show Tr.okS 4 nm X NB NE = true by rw [okS_4]; exact decide_eq_true ⟨by omega, hsz0.out, by omega⟩]; rfl)
                cases qb1
                · go_wp2_with fail
                  refine (KB1.out _ HBX.out).mono ?_
                  rintro e w3 ⟨rfl, hb3⟩
                  go_wp2_with fail
                  go_ret
                  exact ⟨by rw [hok.out]; rfl, below_next HBF.out hb3⟩
                · go_wp2_with fail
                  refine (KB1.out _ HBX.out).mono ?_
                  rintro e w3 ⟨rfl, hb3⟩
                  have f4 := cell_keep' hb3 c4
                  have HB3 := Lib.hid (below_next HBF.out hb3)
                  have HBX3 := Lib.hid (below_next HBX.out hb3)
                  clear hb3
                  go_wp2_with fail
                  refine (KB2.out _ HBX3.out).mono ?_
                  rintro e w4 ⟨rfl, hb4⟩
                  go_wp2_with fail
                  go_ret
                  exact ⟨by rw [hok.out]; rfl, below_next HB3.out hb4⟩
            · exact absurd trivial hnb
        · have hX' : ((X : Int) == 1) = false := beq_eq_false_iff_ne.2 (by omega)
          have hf : Hid (Tr.validS _ = false) := hval.out.trans (by rw [hes.out, Bool.true_and]; rw [okS_4, decide_eq_false (fun h => by omega)]; rfl)
          clear hX
          go_wp2_with fail
          go_ret
          exact ⟨by rw [hf.out]; rfl, HBF.out⟩
      · skip
        by_cases hX : X = 0
        · have hX' : X ≤ 0 := by omega
          have hf : Hid (Tr.validS _ = false) := hval.out.trans (by rw [hes.out, Bool.true_and]; rw [okS_5, decide_eq_false (fun h => by omega)]; rfl)
          clear hX
          go_wp2_with fail
          go_ret
          exact ⟨by rw [hf.out]; rfl, HBF.out⟩
        · have hX' : 1 ≤ X := by omega
          cases hv : Tr.varB nm
          · rw [hv] at KV
            have hf : Hid (Tr.validS _ = false) := hval.out.trans (by rw [hes.out, Bool.true_and]; rw [okS_5, hv, Bool.and_false]; rfl)
            clear hv
            go_wp2_with fail
            refine (KV.out _).mono ?_
            rintro e w2 ⟨rfl, hb2⟩
            go_wp2_with fail
            go_ret
            exact ⟨by rw [hf.out]; rfl, below_next HBF.out hb2⟩
          · rw [hv] at KV
            have hvt := Lib.hid hv
            clear hv
            have hXk := hX'
            by_cases hnb : 0 < NB
            · skip
              have hf : Hid (Tr.validS _ = false) := hval.out.trans (by rw [hes.out, Bool.true_and]; rw [okS_5, decide_eq_false (fun h => by omega)]; rfl)
              go_wp2_with fail
              refine (KV.out _).mono ?_
              rintro e w2 ⟨rfl, hb2⟩
              have d3 := cell_keep' hb2 c3
              have HB2 := Lib.hid hb2
              clear hb2
              go_wp2_with fail
              go_ret
              exact ⟨by rw [hf.out]; rfl, below_next HBF.out HB2.out⟩
            · have hnb' : NB ≤ 0 := by omega
              by_cases hne : 0 < NE
              · skip
                have hf : Hid (Tr.validS _ = false) := hval.out.trans (by rw [hes.out, Bool.true_and]; rw [okS_5, decide_eq_false (fun h => by omega)]; rfl)
                go_wp2_with fail
                refine (KV.out _).mono ?_
                rintro e w2 ⟨rfl, hb2⟩
                have d3 := cell_keep' hb2 c3
                have d4 := cell_keep' hb2 c4
                have HB2 := Lib.hid hb2
                clear hb2
                go_wp2_with fail
                go_ret
                exact ⟨by rw [hf.out]; rfl, below_next HBF.out HB2.out⟩
              · have hne' : NE ≤ 0 := by omega
                have hok : Hid (Tr.validS _ = (qb1 && qb2)) := hval.out.trans (by rw [hes.out, Bool.true_and, hb1e.out, hb2e.out, show Tr.okS 5 nm X NB NE = true by rw [okS_5, hvt.out, Bool.and_true]; exact decide_eq_true ⟨by omega, by omega, by omega⟩]; rfl)
                cases qb1
                · skip
                  go_wp2_with fail
                  refine (KV.out _).mono ?_
                  rintro e w2 ⟨rfl, hb2⟩
                  have d3 := cell_keep' hb2 c3
                  have d4 := cell_keep' hb2 c4
                  have HB2 := Lib.hid hb2
                  have HBX2 := Lib.hid (below_next HBX.out hb2)
                  clear hb2
                  go_wp2_with fail
                  refine (KB1.out _ HBX2.out).mono ?_
                  rintro e w3 ⟨rfl, hb3⟩
                  go_wp2_with fail
                  go_ret
                  exact ⟨by rw [hok.out]; rfl, below_next (below_next HBF.out HB2.out) hb3⟩
                · skip
                  go_wp2_with fail
                  refine (KV.out _).mono ?_
                  rintro e w2 ⟨rfl, hb2⟩
                  have d3 := cell_keep' hb2 c3
                  have d4 := cell_keep' hb2 c4
                  have HB2 := Lib.hid hb2
                  have HBX2 := Lib.hid (below_next HBX.out hb2)
                  clear hb2
                  go_wp2_with fail
                  refine (KB1.out _ HBX2.out).mono ?_
                  rintro e w3 ⟨rfl, hb3⟩
                  have f4 := cell_keep' hb3 d4
                  have HB3 := Lib.hid hb3
                  have HBX3 := Lib.hid (below_next HBX2.out hb3)
                  clear hb3
                  go_wp2_with fail
                  refine (KB2.out _ HBX3.out).mono ?_
                  rintro e w4 ⟨rfl, hb4⟩
                  go_wp2_with fail
                  go_ret
                  exact ⟨by rw [hok.out]; rfl, below_next (below_next (below_next HBF.out HB2.out) HB3.out) hb4⟩
      · skip
        by_cases hX : X = 1
        · have hX' : ((X : Int) == 1) = true := beq_iff_eq.2 (by omega)
          cases hE : nm.toList.isEmpty
          · have hE2 := hE
            have hf : Hid (Tr.validS _ = false) := hval.out.trans (by rw [hes.out, Bool.true_and]; rw [okS_6, decide_eq_false (fun h => size_nz hE (by omega))]; rfl)
            clear hE
            go_wp2_with fail
            go_ret
            exact ⟨by rw [hf.out]; rfl, HBF.out⟩
          · have hsz0 := Lib.hid (isE_eq hE)
            by_cases hnb : 0 < NB
            · skip
              have hf : Hid (Tr.validS _ = false) := hval.out.trans (by rw [hes.out, Bool.true_and]; rw [okS_6, decide_eq_false (fun h => by omega)]; rfl)
              go_wp2_with fail
              go_ret
              exact ⟨by rw [hf.out]; rfl, HBF.out⟩
            · have hnb' : NB ≤ 0 := by omega
              by_cases hne : 0 < NE
              · skip
                have hf : Hid (Tr.validS _ = false) := hval.out.trans (by rw [hes.out, Bool.true_and]; rw [okS_6, decide_eq_false (fun h => by omega)]; rfl)
                go_wp2_with fail
                go_ret
                exact ⟨by rw [hf.out]; rfl, HBF.out⟩
              · have hne' : NE ≤ 0 := by omega
                have hok : Hid (Tr.validS _ = (qb1 && qb2)) := hval.out.trans (by rw [hes.out, Bool.true_and, hb1e.out, hb2e.out, show Tr.okS 6 nm X NB NE = true by rw [okS_6]; exact decide_eq_true ⟨by omega, hsz0.out, by omega, by omega⟩]; rfl)
                cases qb1
                · go_wp2_with fail
                  refine (KB1.out _ HBX.out).mono ?_
                  rintro e w3 ⟨rfl, hb3⟩
                  go_wp2_with fail
                  go_ret
                  exact ⟨by rw [hok.out]; rfl, below_next HBF.out hb3⟩
                · go_wp2_with fail
                  refine (KB1.out _ HBX.out).mono ?_
                  rintro e w3 ⟨rfl, hb3⟩
                  have f4 := cell_keep' hb3 c4
                  have HB3 := Lib.hid (below_next HBF.out hb3)
                  have HBX3 := Lib.hid (below_next HBX.out hb3)
                  clear hb3
                  go_wp2_with fail
                  refine (KB2.out _ HBX3.out).mono ?_
                  rintro e w4 ⟨rfl, hb4⟩
                  go_wp2_with fail
                  go_ret
                  exact ⟨by rw [hok.out]; rfl, below_next HB3.out hb4⟩
        · have hX' : ((X : Int) == 1) = false := beq_eq_false_iff_ne.2 (by omega)
          have hf : Hid (Tr.validS _ = false) := hval.out.trans (by rw [hes.out, Bool.true_and]; rw [okS_6, decide_eq_false (fun h => by omega)]; rfl)
          clear hX
          go_wp2_with fail
          go_ret
          exact ⟨by rw [hf.out]; rfl, HBF.out⟩
      · skip
        by_cases hX : X = 2
        · have hX' : ((X : Int) == 2) = true := beq_iff_eq.2 (by omega)
          cases hE : nm.toList.isEmpty
          · have hE2 := hE
            have hf : Hid (Tr.validS _ = false) := hval.out.trans (by rw [hes.out, Bool.true_and]; rw [okS_7, decide_eq_false (fun h => size_nz hE (by omega))]; rfl)
            clear hE
            go_wp2_with fail
            go_ret
            exact ⟨by rw [hf.out]; rfl, HBF.out⟩
          · have hsz0 := Lib.hid (isE_eq hE)
            by_cases hnb : 0 < NB
            · skip
              have hf : Hid (Tr.validS _ = false) := hval.out.trans (by rw [hes.out, Bool.true_and]; rw [okS_7, decide_eq_false (fun h => by omega)]; rfl)
              go_wp2_with fail
              go_ret
              exact ⟨by rw [hf.out]; rfl, HBF.out⟩
            · have hnb' : NB ≤ 0 := by omega
              by_cases hne : 0 < NE
              · skip
                have hf : Hid (Tr.validS _ = false) := hval.out.trans (by rw [hes.out, Bool.true_and]; rw [okS_7, decide_eq_false (fun h => by omega)]; rfl)
                go_wp2_with fail
                go_ret
                exact ⟨by rw [hf.out]; rfl, HBF.out⟩
              · have hne' : NE ≤ 0 := by omega
                have hok : Hid (Tr.validS _ = (qb1 && qb2)) := hval.out.trans (by rw [hes.out, Bool.true_and, hb1e.out, hb2e.out, show Tr.okS 7 nm X NB NE = true by rw [okS_7]; exact decide_eq_true ⟨by omega, hsz0.out, by omega, by omega⟩]; rfl)
                cases qb1
                · go_wp2_with fail
                  refine (KB1.out _ HBX.out).mono ?_
                  rintro e w3 ⟨rfl, hb3⟩
                  go_wp2_with fail
                  go_ret
                  exact ⟨by rw [hok.out]; rfl, below_next HBF.out hb3⟩
                · go_wp2_with fail
                  refine (KB1.out _ HBX.out).mono ?_
                  rintro e w3 ⟨rfl, hb3⟩
                  have f4 := cell_keep' hb3 c4
                  have HB3 := Lib.hid (below_next HBF.out hb3)
                  have HBX3 := Lib.hid (below_next HBX.out hb3)
                  clear hb3
                  go_wp2_with fail
                  refine (KB2.out _ HBX3.out).mono ?_
                  rintro e w4 ⟨rfl, hb4⟩
                  go_wp2_with fail
                  go_ret
                  exact ⟨by rw [hok.out]; rfl, below_next HB3.out hb4⟩
        · have hX' : ((X : Int) == 2) = false := beq_eq_false_iff_ne.2 (by omega)
          have hf : Hid (Tr.validS _ = false) := hval.out.trans (by rw [hes.out, Bool.true_and]; rw [okS_7, decide_eq_false (fun h => by omega)]; rfl)
          clear hX
          go_wp2_with fail
          go_ret
          exact ⟨by rw [hf.out]; rfl, HBF.out⟩
      · skip
        by_cases hX : X = 2
        · have hX' : ((X : Int) == 2) = true := beq_iff_eq.2 (by omega)
          cases hv : Tr.varB nm
          · rw [hv] at KV
            have hf : Hid (Tr.validS _ = false) := hval.out.trans (by rw [hes.out, Bool.true_and]; rw [okS_8, hv, Bool.and_false]; rfl)
            clear hv
            go_wp2_with fail
            refine (KV.out _).mono ?_
            rintro e w2 ⟨rfl, hb2⟩
            go_wp2_with fail
            go_ret
            exact ⟨by rw [hf.out]; rfl, below_next HBF.out hb2⟩
          · rw [hv] at KV
            have hvt := Lib.hid hv
            clear hv
            have hXk := hX'
            by_cases hnb : 0 < NB
            · skip
              have hf : Hid (Tr.validS _ = false) := hval.out.trans (by rw [hes.out, Bool.true_and]; rw [okS_8, decide_eq_false (fun h => by omega)]; rfl)
              go_wp2_with fail
              refine (KV.out _).mono ?_
              rintro e w2 ⟨rfl, hb2⟩
              have d3 := cell_keep' hb2 c3
              have HB2 := Lib.hid hb2
              clear hb2
              go_wp2_with fail
              go_ret
              exact ⟨by rw [hf.out]; rfl, below_next HBF.out HB2.out⟩
            · have hnb' : NB ≤ 0 := by omega
              by_cases hne : 0 < NE
              · skip
                have hf : Hid (Tr.validS _ = false) := hval.out.trans (by rw [hes.out, Bool.true_and]; rw [okS_8, decide_eq_false (fun h => by omega)]; rfl)
                go_wp2_with fail
                refine (KV.out _).mono ?_
                rintro e w2 ⟨rfl, hb2⟩
                have d3 := cell_keep' hb2 c3
                have d4 := cell_keep' hb2 c4
                have HB2 := Lib.hid hb2
                clear hb2
                go_wp2_with fail
                go_ret
                exact ⟨by rw [hf.out]; rfl, below_next HBF.out HB2.out⟩
              · have hne' : NE ≤ 0 := by omega
                have hok : Hid (Tr.validS _ = (qb1 && qb2)) := hval.out.trans (by rw [hes.out, Bool.true_and, hb1e.out, hb2e.out, show Tr.okS 8 nm X NB NE = true by rw [okS_8, hvt.out, Bool.and_true]; exact decide_eq_true ⟨by omega, by omega, by omega⟩]; rfl)
                cases qb1
                · skip
                  go_wp2_with fail
                  refine (KV.out _).mono ?_
                  rintro e w2 ⟨rfl, hb2⟩
                  have d3 := cell_keep' hb2 c3
                  have d4 := cell_keep' hb2 c4
                  have HB2 := Lib.hid hb2
                  have HBX2 := Lib.hid (below_next HBX.out hb2)
                  clear hb2
                  go_wp2_with fail
                  refine (KB1.out _ HBX2.out).mono ?_
                  rintro e w3 ⟨rfl, hb3⟩
                  go_wp2_with fail
                  go_ret
                  exact ⟨by rw [hok.out]; rfl, below_next (below_next HBF.out HB2.out) hb3⟩
                · skip
                  go_wp2_with fail
                  refine (KV.out _).mono ?_
                  rintro e w2 ⟨rfl, hb2⟩
                  have d3 := cell_keep' hb2 c3
                  have d4 := cell_keep' hb2 c4
                  have HB2 := Lib.hid hb2
                  have HBX2 := Lib.hid (below_next HBX.out hb2)
                  clear hb2
                  go_wp2_with fail
                  refine (KB1.out _ HBX2.out).mono ?_
                  rintro e w3 ⟨rfl, hb3⟩
                  have f4 := cell_keep' hb3 d4
                  have HB3 := Lib.hid hb3
                  have HBX3 := Lib.hid (below_next HBX2.out hb3)
                  clear hb3
                  go_wp2_with fail
                  refine (KB2.out _ HBX3.out).mono ?_
                  rintro e w4 ⟨rfl, hb4⟩
                  go_wp2_with fail
                  go_ret
                  exact ⟨by rw [hok.out]; rfl, below_next (below_next (below_next HBF.out HB2.out) HB3.out) hb4⟩
        · have hX' : ((X : Int) == 2) = false := beq_eq_false_iff_ne.2 (by omega)
          have hf : Hid (Tr.validS _ = false) := hval.out.trans (by rw [hes.out, Bool.true_and]; rw [okS_8, decide_eq_false (fun h => by omega)]; rfl)
          clear hX
          go_wp2_with fail
          go_ret
          exact ⟨by rw [hf.out]; rfl, HBF.out⟩
      · skip
        by_cases hX : X = 0
        · have hX' : ((X : Int) == 0) = true := beq_iff_eq.2 (by omega)
          cases hE : nm.toList.isEmpty
          · have hE2 := hE
            have hf : Hid (Tr.validS _ = false) := hval.out.trans (by rw [hes.out, Bool.true_and]; rw [okS_9, decide_eq_false (fun h => size_nz hE (by omega))]; rfl)
            clear hE
            go_wp2_with fail
            go_ret
            exact ⟨by rw [hf.out]; rfl, HBF.out⟩
          · have hsz0 := Lib.hid (isE_eq hE)
            by_cases hnb : 0 < NB
            · skip
              have hf : Hid (Tr.validS _ = false) := hval.out.trans (by rw [hes.out, Bool.true_and]; rw [okS_9, decide_eq_false (fun h => by omega)]; rfl)
              go_wp2_with fail
              go_ret
              exact ⟨by rw [hf.out]; rfl, HBF.out⟩
            · have hnb' : NB ≤ 0 := by omega
              by_cases hne : 0 < NE
              · skip
                have hf : Hid (Tr.validS _ = false) := hval.out.trans (by rw [hes.out, Bool.true_and]; rw [okS_9, decide_eq_false (fun h => by omega)]; rfl)
                go_wp2_with fail
                go_ret
                exact ⟨by rw [hf.out]; rfl, HBF.out⟩
              · have hne' : NE ≤ 0 := by omega
                have hok : Hid (Tr.validS _ = (qb1 && qb2)) := hval.out.trans (by rw [hes.out, Bool.true_and, hb1e.out, hb2e.out, show Tr.okS 9 nm X NB NE = true by rw [okS_9]; exact decide_eq_true ⟨by omega, hsz0.out, by omega, by omega⟩]; rfl)
                cases qb1
                · go_wp2_with fail
                  refine (KB1.out _ HBX.out).mono ?_
                  rintro e w3 ⟨rfl, hb3⟩
                  go_wp2_with fail
                  go_ret
                  exact ⟨by rw [hok.out]; rfl, below_next HBF.out hb3⟩
                · go_wp2_with fail
                  refine (KB1.out _ HBX.out).mono ?_
                  rintro e w3 ⟨rfl, hb3⟩
                  have f4 := cell_keep' hb3 c4
                  have HB3 := Lib.hid (below_next HBF.out hb3)
                  have HBX3 := Lib.hid (below_next HBX.out hb3)
                  clear hb3
                  go_wp2_with fail
                  refine (KB2.out _ HBX3.out).mono ?_
                  rintro e w4 ⟨rfl, hb4⟩
                  go_wp2_with fail
                  go_ret
                  exact ⟨by rw [hok.out]; rfl, below_next HB3.out hb4⟩
        · have hX' : ((X : Int) == 0) = false := beq_eq_false_iff_ne.2 (by omega)
          have hf : Hid (Tr.validS _ = false) := hval.out.trans (by rw [hes.out, Bool.true_and]; rw [okS_9, decide_eq_false (fun h => by omega)]; rfl)
          clear hX
          go_wp2_with fail
          go_ret
          exact ⟨by rw [hf.out]; rfl, HBF.out⟩
      · skip
        have hf : Hid (Tr.validS _ = false) := hval.out.trans (by rw [hes.out, Bool.true_and]; rw [okS_other hcs]; rfl)
        have e0 : (k == 0) = false := beq_eq_false_iff_ne.2 (by omega)
        have e1 : (k == 1) = false := beq_eq_false_iff_ne.2 (by omega)
        have e2 : (k == 2) = false := beq_eq_false_iff_ne.2 (by omega)
        have e3 : (k == 3) = false := beq_eq_false_iff_ne.2 (by omega)
        have e4 : (k == 4) = false := beq_eq_false_iff_ne.2 (by omega)
        have e5 : (k == 5) = false := beq_eq_false_iff_ne.2 (by omega)
        have e6 : (k == 6) = false := beq_eq_false_iff_ne.2 (by omega)
        have e7 : (k == 7) = false := beq_eq_false_iff_ne.2 (by omega)
        have e8 : (k == 8) = false := beq_eq_false_iff_ne.2 (by omega)
        have e9 : (k == 9) = false := beq_eq_false_iff_ne.2 (by omega)
        clear hcs
        go_wp2_with fail
        go_ret
        exact ⟨by rw [hf.out]; rfl, HBF.out⟩
end Go.Proofs.YtlgfickhkejdjaaGreatDoor
