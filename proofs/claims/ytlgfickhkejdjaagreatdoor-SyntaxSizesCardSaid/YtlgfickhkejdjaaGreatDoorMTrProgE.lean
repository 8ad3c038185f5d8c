/-
  Trees of the language: the program's Valid, walked.
-/
import Derived.Test.YtlgfickhkejdjaaGreatDoorMTrProgD
import Derived.Test.YtlgfickhkejdjaaGreatDoorMTrB
import Derived.Test.YtlgfickhkejdjaaGreatDoorMTrA
import Derived.Laws.EntriesVeiled
namespace Go.Proofs.YtlgfickhkejdjaaGreatDoor
open Go.RowKit

theorem holdsN {w : World} (h : LexEnv w) (l : List ByteArray) : HoldsN w Tr.varB l := fun W _ x hb _ hr => isVariable_any x W (h.keep hb) hr
theorem holdsS_any : ∀ (d : Nat) (l : List Tr.S) (w : World), Tr.S.deep.deeps l ≤ d → Tr.fitSs l → SynEnv w → HoldsS w Tr.validS l := by
  intro d
  induction d with
  | zero =>
    intro l w hd hf hE W j x a1 a2 a3 hb hj hr
    have := (Tr.S.deep_in hd hj).1
    omega
  | succ d ih =>
    intro l w hd hf hE W j x a1 a2 a3 hb hj hr
    obtain ⟨_, d1, d2⟩ := Tr.S.deep_in hd hj
    obtain ⟨f1, f2, f3⟩ := Tr.fitS_parts (Tr.fitSs_get hf hj)
    exact validStmt_of x a1 a2 a3 W (hE.keep hb) f1 hr.1 hr.2.1 hr.2.2.1 hr.2.2.2 (ih _ W (by omega) f2 (hE.keep hb)) (ih _ W (by omega) f3 (hE.keep hb))
theorem holdsS {l : List Tr.S} {w : World} (hf : Tr.fitSs l) (hE : SynEnv w) : HoldsS w Tr.validS l := holdsS_any _ l w (Nat.le_refl _) hf hE

set_option maxRecDepth 100000 in
set_option maxHeartbeats 8000000 in
theorem valid1_any (m : Tr.M) (x y : Value) (w : World) (hE : SynEnv w) (hfit : Tr.fitM m) (hr : ReadM w m x y) :
    Calls Tryz.prog 49 #[methV m x y] w fun e w' => e = .returned (.bool (Tr.validM m)) ∧ Below w.heap.size w w' := by
  obtain ⟨hnm, hp, hs⟩ := hr
  obtain ⟨px, cx, rfl⟩ := hp.form
  obtain ⟨py, cy, rfl, _⟩ := hs.form
  obtain ⟨q1, hq1⟩ : ∃ q, Tr.varB m.name = q := ⟨_, rfl⟩
  obtain ⟨q2, hq2⟩ : ∃ q, m.params.all Tr.varB = q := ⟨_, rfl⟩
  obtain ⟨q3, hq3⟩ : ∃ q, Tr.validSs m.body = q := ⟨_, rfl⟩
  have KV : Hid (∀ W, Below w.heap.size w W → Calls Tryz.prog 38 #[.string m.name] W fun e w' => e = .returned (.bool q1) ∧ Below W.heap.size W w') := fun W hb => by rw [← hq1]; exact isVariable_any m.name W (hE.lex.keep hb) hnm
  have KN : Hid (∀ W, Below w.heap.size w W → Calls Tryz.prog 50 #[.slice px m.params.length cx, .func (.func 38) #[] #[]] W fun e w' => e = .returned (.bool q2) ∧ Below W.heap.size W w') := fun W hb => by
    rw [← hq2]; exact allN_any Tr.varB m.params W (holdsN (hE.lex.keep hb) _) _ (hp.keep hb)
  have KS : Hid (∀ W, Below w.heap.size w W → Calls Tryz.prog 51 #[.slice py m.body.length cy, .func (.func 52) #[] #[]] W fun e w' => e = .returned (.bool q3) ∧ Below W.heap.size W w') := fun W hb => by
    rw [← hq3, ← validSs_fun]; exact allS_any Tr.validS m.body W (holdsS hfit (hE.keep hb)) _ (hs.keep hb)
  have hf : Hid (Tr.validM m = (q1 && q2 && q3)) := by show _ = _; unfold Tr.validM; rw [hq1, hq2, hq3]
  obtain ⟨PN, hPN⟩ : ∃ N, m.params.length = N := ⟨_, rfl⟩
  obtain ⟨BN, hBN⟩ : ∃ N, m.body.length = N := ⟨_, rfl⟩
  rw [hPN] at KN
  rw [hBN] at KS
  have hbx := below_box w (.cells #[.string m.name, .slice px PN cx, .slice py BN cy] 49)
  have HC := Lib.hid (fun j u h => box_cell w #[.string m.name, .slice px PN cx, .slice py BN cy] 49 j u h)
  have HB := Lib.hid hbx
  unfold methV
  rw [hPN, hBN]
  clear hq1 hq2 hq3 hp hs hbx hE hfit hPN hBN
  cases q1
  · go_enter Tryz.func49, Tryz.ntmps49
    go_wp2_with fail
    refine (KV.out _ HB.out).mono ?_
    rintro e w2 ⟨rfl, hb2⟩
    go_wp2_with fail
    go_ret
    exact ⟨by rw [hf.out]; rfl, below_next HB.out hb2⟩
  · cases q2
    · go_enter Tryz.func49, Tryz.ntmps49
      go_wp2_with fail
      refine (KV.out _ HB.out).mono ?_
      rintro e w2 ⟨rfl, hb2⟩
      have c1 := cell_keep' hb2 (HC.out 1 _ rfl)
      have HB2 := Lib.hid (below_next HB.out hb2)
      clear hb2
      go_wp2_with fail
      refine (KN.out _ HB2.out).mono ?_
      rintro e w3 ⟨rfl, hb3⟩
      go_wp2_with fail
      go_ret
      exact ⟨by rw [hf.out]; rfl, below_next HB2.out hb3⟩
    · go_enter Tryz.func49, Tryz.ntmps49
      go_wp2_with fail
      refine (KV.out _ HB.out).mono ?_
      rintro e w2 ⟨rfl, hb2⟩
      have c1 := cell_keep' hb2 (HC.out 1 _ rfl)
      have c2 := cell_keep' hb2 (HC.out 2 _ rfl)
      have HB2 := Lib.hid (below_next HB.out hb2)
      clear hb2
      go_wp2_with fail
      refine (KN.out _ HB2.out).mono ?_
      rintro e w3 ⟨rfl, hb3⟩
      have d2 := cell_keep' hb3 c2
      have HB3 := Lib.hid (below_next HB2.out hb3)
      clear hb3
      go_wp2_with fail
      refine (KS.out _ HB3.out).mono ?_
      rintro e w4 ⟨rfl, hb4⟩
      go_wp2_with fail
      go_ret
      exact ⟨by rw [hf.out]; rfl, below_next HB3.out hb4⟩

theorem holdsM {w : World} (h : SynEnv w) (l : List Tr.M) (hf : ∀ m ∈ l, Tr.fitM m) : HoldsM w Tr.validM l := fun W _ x a1 a2 hb hj hr => valid1_any x a1 a2 W (h.keep hb) (hf x (List.mem_of_getElem? hj)) hr

set_option maxRecDepth 100000 in
set_option maxHeartbeats 8000000 in
theorem valid2_any (VB : Nat) (m : Tr.C) (x y : Value) (w : World) (hE : SynEnv w) (hfit : Tr.fitC m) (hV : w.cell? ⟨VB, 0, none⟩ = some (.func (.func 49) #[] #[])) (hr : ReadC w m x y) :
    Calls Tryz.prog 54 #[classV m x y, .pointer (some ⟨VB, 0, none⟩)] w fun e w' => e = .returned (.bool (Tr.validC m)) ∧ Below w.heap.size w w' := by
  obtain ⟨hnm, hp, hs⟩ := hr
  obtain ⟨px, cx, rfl⟩ := hp.form
  obtain ⟨py, cy, rfl⟩ := hs.form
  have hml := hs.len
  unfold maxLen at hml
  obtain ⟨q1, hq1⟩ : ∃ q, Tr.clsB m.name = q := ⟨_, rfl⟩
  obtain ⟨q2, hq2⟩ : ∃ q, m.fields.all Tr.varB = q := ⟨_, rfl⟩
  obtain ⟨q3, hq3⟩ : ∃ q, m.methods.all Tr.validM = q := ⟨_, rfl⟩
  have KV : Hid (∀ W, Below w.heap.size w W → Calls Tryz.prog 39 #[.string m.name] W fun e w' => e = .returned (.bool q1) ∧ Below W.heap.size W w') := fun W hb => by rw [← hq1]; exact isClass_any m.name W (hE.lex.keep hb) hnm
  have KN : Hid (∀ W, Below w.heap.size w W → Calls Tryz.prog 50 #[.slice px m.fields.length cx, .func (.func 38) #[] #[]] W fun e w' => e = .returned (.bool q2) ∧ Below W.heap.size W w') := fun W hb => by
    rw [← hq2]; exact allN_any Tr.varB m.fields W (holdsN (hE.lex.keep hb) _) _ (hp.keep hb)
  have KS : Hid (∀ W, Below w.heap.size w W → Calls Tryz.prog 55 #[.slice py m.methods.length cy, .func (.func 49) #[] #[]] W fun e w' => e = .returned (.bool q3) ∧ Below W.heap.size W w') := fun W hb => by
    rw [← hq3]; exact allM_any Tr.validM m.methods W (holdsM (hE.keep hb) _ hfit) _ (hs.keep hb)
  obtain ⟨act, hact⟩ : ∃ a, m.actor = a := ⟨_, rfl⟩
  obtain ⟨PN, hPN⟩ : ∃ N, m.fields.length = N := ⟨_, rfl⟩
  obtain ⟨BN, hBN⟩ : ∃ N, m.methods.length = N := ⟨_, rfl⟩
  have hf : Hid (Tr.validC m = (q1 && q2 && (act || decide (BN = 0)) && q3)) := by show _ = _; unfold Tr.validC; rw [hq1, hq2, hq3, hact, hBN]
  rw [hPN] at KN
  rw [hBN] at KS hml
  have hbx := below_box w (.cells #[.string m.name, .bool act, .slice px PN cx, .slice py BN cy] 52)
  have HC := Lib.hid (fun j u h => box_cell w #[.string m.name, .bool act, .slice px PN cx, .slice py BN cy] 52 j u h)
  have HB := Lib.hid hbx
  have hV1 := Lib.hid (cell_keep' hbx hV)
  unfold classV
  rw [hPN, hBN, hact]
  clear hq1 hq2 hq3 hp hs hbx hE hfit hPN hBN hact hV
  cases q1
  · go_enter Tryz.func54, Tryz.ntmps54
    go_wp2_with fail
    refine (KV.out _ HB.out).mono ?_
    rintro e w2 ⟨rfl, hb2⟩
    go_wp2_with fail
    go_ret
    exact ⟨by rw [hf.out]; rfl, below_next HB.out hb2⟩
  · cases q2
    · go_enter Tryz.func54, Tryz.ntmps54
      go_wp2_with fail
      refine (KV.out _ HB.out).mono ?_
      rintro e w2 ⟨rfl, hb2⟩
      have c2 := cell_keep' hb2 (HC.out 2 _ rfl)
      have HB2 := Lib.hid (below_next HB.out hb2)
      clear hb2
      go_wp2_with fail
      refine (KN.out _ HB2.out).mono ?_
      rintro e w3 ⟨rfl, hb3⟩
      go_wp2_with fail
      go_ret
      exact ⟨by rw [hf.out]; rfl, below_next HB2.out hb3⟩
    · by_cases hz : act = false ∧ BN ≠ 0
      · obtain ⟨rfl, hz⟩ := hz
        have hz1 : ((BN : Int) == 0) = false := beq_eq_false_iff_ne.2 (by omega)
        have hf2 : Hid (Tr.validC m = false) := by show _ = _; rw [hf.out, decide_eq_false hz]; rfl
        clear hz
        go_enter Tryz.func54, Tryz.ntmps54
        go_wp2_with fail
        refine (KV.out _ HB.out).mono ?_
        rintro e w2 ⟨rfl, hb2⟩
        have c1 := cell_keep' hb2 (HC.out 1 _ rfl)
        have c2 := cell_keep' hb2 (HC.out 2 _ rfl)
        have c3 := cell_keep' hb2 (HC.out 3 _ rfl)
        have HB2 := Lib.hid (below_next HB.out hb2)
        clear hb2
        go_wp2_with fail
        refine (KN.out _ HB2.out).mono ?_
        rintro e w3 ⟨rfl, hb3⟩
        have d1 := cell_keep' hb3 c1
        have d3 := cell_keep' hb3 c3
        have HB3 := Lib.hid (below_next HB2.out hb3)
        clear hb3
        go_wp2_with fail
        go_ret
        exact ⟨by rw [hf2.out]; rfl, HB3.out⟩
      · have hf2 : Hid (Tr.validC m = q3) := by
          show _ = _
          rw [hf.out]
          have : (act || decide (BN = 0)) = true := by
            cases act
            · rw [Bool.false_or]; exact decide_eq_true (by simpa using hz)
            · rfl
          rw [this]; rfl
        have hz' : act = true ∨ (act = false ∧ BN = 0) := by
          cases act
          · right; exact ⟨rfl, by simpa using hz⟩
          · left; rfl
        clear hz
        rcases hz' with rfl | ⟨rfl, hz⟩
        · go_enter Tryz.func54, Tryz.ntmps54
          go_wp2_with fail
          refine (KV.out _ HB.out).mono ?_
          rintro e w2 ⟨rfl, hb2⟩
          have c1 := cell_keep' hb2 (HC.out 1 _ rfl)
          have c2 := cell_keep' hb2 (HC.out 2 _ rfl)
          have c3 := cell_keep' hb2 (HC.out 3 _ rfl)
          have v1 := cell_keep' hb2 hV1.out
          have HB2 := Lib.hid (below_next HB.out hb2)
          clear hb2
          go_wp2_with fail
          refine (KN.out _ HB2.out).mono ?_
          rintro e w3 ⟨rfl, hb3⟩
          have d1 := cell_keep' hb3 c1
          have d3 := cell_keep' hb3 c3
          have v2 := cell_keep' hb3 v1
          have HB3 := Lib.hid (below_next HB2.out hb3)
          clear hb3
          go_wp2_with fail
          refine (KS.out _ HB3.out).mono ?_
          rintro e w4 ⟨rfl, hb4⟩
          go_wp2_with fail
          go_ret
          exact ⟨by rw [hf2.out]; rfl, below_next HB3.out hb4⟩
        · have hz1 : ((BN : Int) == 0) = true := beq_iff_eq.2 (by omega)
          clear hz
          go_enter Tryz.func54, Tryz.ntmps54
          go_wp2_with fail
          refine (KV.out _ HB.out).mono ?_
          rintro e w2 ⟨rfl, hb2⟩
          have c1 := cell_keep' hb2 (HC.out 1 _ rfl)
          have c2 := cell_keep' hb2 (HC.out 2 _ rfl)
          have c3 := cell_keep' hb2 (HC.out 3 _ rfl)
          have v1 := cell_keep' hb2 hV1.out
          have HB2 := Lib.hid (below_next HB.out hb2)
          clear hb2
          go_wp2_with fail
          refine (KN.out _ HB2.out).mono ?_
          rintro e w3 ⟨rfl, hb3⟩
          have d1 := cell_keep' hb3 c1
          have d3 := cell_keep' hb3 c3
          have v2 := cell_keep' hb3 v1
          have HB3 := Lib.hid (below_next HB2.out hb3)
          clear hb3
          go_wp2_with fail
          refine (KS.out _ HB3.out).mono ?_
          rintro e w4 ⟨rfl, hb4⟩
          go_wp2_with fail
          go_ret
          exact ⟨by rw [hf2.out]; rfl, below_next HB3.out hb4⟩

theorem holdsC {w : World} (VB : Nat) (h : SynEnv w) (hV : w.cell? ⟨VB, 0, none⟩ = some (.func (.func 49) #[] #[])) (l : List Tr.C) (hf : Tr.fitP l) : HoldsC VB w Tr.validC l := fun W _ x a1 a2 hb hj hr => valid2_any VB x a1 a2 W (h.keep hb) (hf x (List.mem_of_getElem? hj)) (cell_keep' hb hV) hr

set_option maxRecDepth 100000 in
set_option maxHeartbeats 8000000 in
theorem valid_any (v : Value) (cs : List Tr.C) (w : World) (hE : SynEnv w) (hfit : Tr.fitP cs) (h : SlC w v cs) :
    Calls Tryz.prog 20 #[.agg #[v]] w fun r w' => r = .returned (.bool (Tr.validP cs)) ∧ Below w.heap.size w w' := by
  obtain ⟨p, c, rfl⟩ := h.form
  have KC : Hid (∀ W, Below w.heap.size w W → ∀ VB, W.cell? ⟨VB, 0, none⟩ = some (.func (.func 49) #[] #[]) → Calls Tryz.prog 53 #[.slice p cs.length c, .func (.func 54) #[] #[.pointer (some ⟨VB, 0, none⟩)]] W fun e w' => e = .returned (.bool (Tr.validP cs)) ∧ Below W.heap.size W w') := fun W hb VB hV =>
    allC_any VB Tr.validC cs W (holdsC VB (hE.keep hb) hV _ hfit) _ (h.keep hb)
  obtain ⟨N, hN⟩ : ∃ N, cs.length = N := ⟨_, rfl⟩
  rw [hN] at KC ⊢
  have hbx := below_next (below_box w (.cells #[.slice p N c] 32)) (below_box (w.alloc (.cells #[.slice p N c] 32)) (.cells #[.func (.func 49) #[] #[]] 78))
  have hcl2 := box_cell (w.alloc (.cells #[.slice p N c] 32)) #[.func (.func 49) #[] #[]] 78 0 _ rfl
  simp only [World.size_alloc] at hcl2
  have HC := Lib.hid (KC.out _ hbx _ hcl2)
  have HBX := Lib.hid hbx
  clear h hE hfit hN hbx hcl2 KC
  go_enter Tryz.func20, Tryz.ntmps20
  go_wp2_with fail
  refine HC.out.mono ?_
  rintro e w2 ⟨rfl, hb2⟩
  go_wp2_with fail
  go_ret
  exact ⟨rfl, below_next HBX.out hb2⟩
end Go.Proofs.YtlgfickhkejdjaaGreatDoor
