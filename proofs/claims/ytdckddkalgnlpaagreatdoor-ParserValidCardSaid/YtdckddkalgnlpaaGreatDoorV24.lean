/-
  Several texts in one: TrProgE, SyExpr, SyLine, SySimple.
-/
import Derived.Test.YtdckddkalgnlpaaGreatDoorV23
import Derived.Laws.EntriesVeiled
import Derived.Test.YtdckddkalgnlpaaGreatDoorV6
namespace Go.Proofs.YtdckddkalgnlpaaGreatDoor
open Go.RowKit
theorem holdsN {w : World} (h : LexEnv w) (l : List ByteArray) : HoldsN w Tr.varB l := fun W _ x hb _ hr => isVariable_any x W (h.keep hb) hr
theorem holdsS_any : ∀ (d : Nat) (l : List Tr.S) (w : World), Tr.S.deep.deeps l ≤ d → Tr.fitSs l → SynEnv w → HoldsS w Tr.validS l := by
 intro d
 induction d with
 | zero =>
   intro l w hd hf hE W j x a1 a2 a3 hb hj hr
   have := (Tr.S.deep_in hd hj).1
   omega
 | succ d ih =>
   intro l w hd hf hE W j x a1 a2 a3 hb hj hr
   obtain ⟨_, d1, d2⟩ := Tr.S.deep_in hd hj
   obtain ⟨f1, f2, f3⟩ := Tr.fitS_parts (Tr.fitSs_get hf hj)
   exact validStmt_of x a1 a2 a3 W (hE.keep hb) f1 hr.1 hr.2.1 hr.2.2.1 hr.2.2.2 (ih _ W (by omega) f2 (hE.keep hb)) (ih _ W (by omega) f3 (hE.keep hb))
theorem holdsS {l : List Tr.S} {w : World} (hf : Tr.fitSs l) (hE : SynEnv w) : HoldsS w Tr.validS l := holdsS_any _ l w (Nat.le_refl _) hf hE
set_option maxRecDepth 100000 in
set_option maxHeartbeats 8000000 in
theorem valid1_any (m : Tr.M) (x y : Value) (w : World) (hE : SynEnv w) (hfit : Tr.fitM m) (hr : ReadM w m x y) :
 Calls Tryz.prog 49 #[methV m x y] w fun e w' => e = .returned (.bool (Tr.validM m)) ∧ Below w.heap.size w w' := by
 obtain ⟨hnm, hp, hs⟩ := hr
 obtain ⟨px, cx, rfl⟩ := hp.form
 obtain ⟨py, cy, rfl, _⟩ := hs.form
 obtain ⟨q1, hq1⟩ : ∃ q, Tr.varB m.name = q := ⟨_, rfl⟩
 obtain ⟨q2, hq2⟩ : ∃ q, m.params.all Tr.varB = q := ⟨_, rfl⟩
 obtain ⟨q3, hq3⟩ : ∃ q, Tr.validSs m.body = q := ⟨_, rfl⟩
 have KV : Hid (∀ W, Below w.heap.size w W → Calls Tryz.prog 46 #[.string m.name] W fun e w' => e = .returned (.bool q1) ∧ Below W.heap.size W w') := fun W hb => by rw [← hq1]; exact isVariable_any m.name W (hE.lex.keep hb) hnm
 have KN : Hid (∀ W, Below w.heap.size w W → Calls Tryz.prog 50 #[.slice px m.params.length cx, .func (.func 46) #[] #[]] W fun e w' => e = .returned (.bool q2) ∧ Below W.heap.size W w') := fun W hb => by
  rw [← hq2]; exact allN_any Tr.varB m.params W (holdsN (hE.lex.keep hb) _) _ (hp.keep hb)
 have KS : Hid (∀ W, Below w.heap.size w W → Calls Tryz.prog 51 #[.slice py m.body.length cy, .func (.func 52) #[] #[]] W fun e w' => e = .returned (.bool q3) ∧ Below W.heap.size W w') := fun W hb => by
  rw [← hq3, ← validSs_fun]; exact allS_any Tr.validS m.body W (holdsS hfit (hE.keep hb)) _ (hs.keep hb)
 have hf : Hid (Tr.validM m = (q1 && q2 && q3)) := by show _ = _; unfold Tr.validM; rw [hq1, hq2, hq3]
 obtain ⟨PN, hPN⟩ : ∃ N, m.params.length = N := ⟨_, rfl⟩
 obtain ⟨BN, hBN⟩ : ∃ N, m.body.length = N := ⟨_, rfl⟩
 rw [hPN] at KN
 rw [hBN] at KS
 have hbx := below_box w (.cells #[.string m.name, .slice px PN cx, .slice py BN cy] 64)
 have HC := Lib.hid (fun j u h => box_cell w #[.string m.name, .slice px PN cx, .slice py BN cy] 64 j u h)
 have HB := Lib.hid hbx
 unfold methV
 rw [hPN, hBN]
 clear hq1 hq2 hq3 hp hs hbx hE hfit hPN hBN
 cases q1
 ·go_enter Tryz.func49, Tryz.ntmps49
  go_wp2_with fail
  refine (KV.out _ HB.out).mono ?_
  rintro e w2 ⟨rfl, hb2⟩
  go_wp2_with fail
  go_ret
  exact ⟨by rw [hf.out]; rfl, below_next HB.out hb2⟩
 ·cases q2
  ·go_enter Tryz.func49, Tryz.ntmps49
   go_wp2_with fail
   refine (KV.out _ HB.out).mono ?_
   rintro e w2 ⟨rfl, hb2⟩
   have c1 := cell_keep' hb2 (HC.out 1 _ rfl)
   have HB2 := Lib.hid (below_next HB.out hb2)
   clear hb2
   go_wp2_with fail
   refine (KN.out _ HB2.out).mono ?_
   rintro e w3 ⟨rfl, hb3⟩
   go_wp2_with fail
   go_ret
   exact ⟨by rw [hf.out]; rfl, below_next HB2.out hb3⟩
  ·go_enter Tryz.func49, Tryz.ntmps49
   go_wp2_with fail
   refine (KV.out _ HB.out).mono ?_
   rintro e w2 ⟨rfl, hb2⟩
   have c1 := cell_keep' hb2 (HC.out 1 _ rfl)
   have c2 := cell_keep' hb2 (HC.out 2 _ rfl)
   have HB2 := Lib.hid (below_next HB.out hb2)
   clear hb2
   go_wp2_with fail
   refine (KN.out _ HB2.out).mono ?_
   rintro e w3 ⟨rfl, hb3⟩
   have d2 := cell_keep' hb3 c2
   have HB3 := Lib.hid (below_next HB2.out hb3)
   clear hb3
   go_wp2_with fail
   refine (KS.out _ HB3.out).mono ?_
   rintro e w4 ⟨rfl, hb4⟩
   go_wp2_with fail
   go_ret
   exact ⟨by rw [hf.out]; rfl, below_next HB3.out hb4⟩
theorem holdsM {w : World} (h : SynEnv w) (l : List Tr.M) (hf : ∀ m ∈ l, Tr.fitM m) : HoldsM w Tr.validM l := fun W _ x a1 a2 hb hj hr => valid1_any x a1 a2 W (h.keep hb) (hf x (List.mem_of_getElem? hj)) hr
set_option maxRecDepth 100000 in
set_option maxHeartbeats 8000000 in
theorem valid2_any (VB : Nat) (m : Tr.C) (x y : Value) (w : World) (hE : SynEnv w) (hfit : Tr.fitC m) (hV : w.cell? ⟨VB, 0, none⟩ = some (.func (.func 49) #[] #[])) (hr : ReadC w m x y) :
 Calls Tryz.prog 54 #[classV m x y, .pointer (some ⟨VB, 0, none⟩)] w fun e w' => e = .returned (.bool (Tr.validC m)) ∧ Below w.heap.size w w' := by
 obtain ⟨hnm, hp, hs⟩ := hr
 obtain ⟨px, cx, rfl⟩ := hp.form
 obtain ⟨py, cy, rfl⟩ := hs.form
 have hml := hs.len
 unfold maxLen at hml
 obtain ⟨q1, hq1⟩ : ∃ q, Tr.clsB m.name = q := ⟨_, rfl⟩
 obtain ⟨q2, hq2⟩ : ∃ q, m.fields.all Tr.varB = q := ⟨_, rfl⟩
 obtain ⟨q3, hq3⟩ : ∃ q, m.methods.all Tr.validM = q := ⟨_, rfl⟩
 have KV : Hid (∀ W, Below w.heap.size w W → Calls Tryz.prog 47 #[.string m.name] W fun e w' => e = .returned (.bool q1) ∧ Below W.heap.size W w') := fun W hb => by rw [← hq1]; exact isClass_any m.name W (hE.lex.keep hb) hnm
 have KN : Hid (∀ W, Below w.heap.size w W → Calls Tryz.prog 50 #[.slice px m.fields.length cx, .func (.func 46) #[] #[]] W fun e w' => e = .returned (.bool q2) ∧ Below W.heap.size W w') := fun W hb => by
  rw [← hq2]; exact allN_any Tr.varB m.fields W (holdsN (hE.lex.keep hb) _) _ (hp.keep hb)
 have KS : Hid (∀ W, Below w.heap.size w W → Calls Tryz.prog 55 #[.slice py m.methods.length cy, .func (.func 49) #[] #[]] W fun e w' => e = .returned (.bool q3) ∧ Below W.heap.size W w') := fun W hb => by
  rw [← hq3]; exact allM_any Tr.validM m.methods W (holdsM (hE.keep hb) _ hfit) _ (hs.keep hb)
 obtain ⟨act, hact⟩ : ∃ a, m.actor = a := ⟨_, rfl⟩
 obtain ⟨PN, hPN⟩ : ∃ N, m.fields.length = N := ⟨_, rfl⟩
 obtain ⟨BN, hBN⟩ : ∃ N, m.methods.length = N := ⟨_, rfl⟩
 have hf : Hid (Tr.validC m = (q1 && q2 && (act || decide (BN = 0)) && q3)) := by show _ = _; unfold Tr.validC; rw [hq1, hq2, hq3, hact, hBN]
 rw [hPN] at KN
 rw [hBN] at KS hml
 have hbx := below_box w (.cells #[.string m.name, .bool act, .slice px PN cx, .slice py BN cy] 49)
 have HC := Lib.hid (fun j u h => box_cell w #[.string m.name, .bool act, .slice px PN cx, .slice py BN cy] 49 j u h)
 have HB := Lib.hid hbx
 have hV1 := Lib.hid (cell_keep' hbx hV)
 unfold classV
 rw [hPN, hBN, hact]
 clear hq1 hq2 hq3 hp hs hbx hE hfit hPN hBN hact hV
 cases q1
 ·go_enter Tryz.func54, Tryz.ntmps54
  go_wp2_with fail
  refine (KV.out _ HB.out).mono ?_
  rintro e w2 ⟨rfl, hb2⟩
  go_wp2_with fail
  go_ret
  exact ⟨by rw [hf.out]; rfl, below_next HB.out hb2⟩
 ·cases q2
  ·go_enter Tryz.func54, Tryz.ntmps54
   go_wp2_with fail
   refine (KV.out _ HB.out).mono ?_
   rintro e w2 ⟨rfl, hb2⟩
   have c2 := cell_keep' hb2 (HC.out 2 _ rfl)
   have HB2 := Lib.hid (below_next HB.out hb2)
   clear hb2
   go_wp2_with fail
   refine (KN.out _ HB2.out).mono ?_
   rintro e w3 ⟨rfl, hb3⟩
   go_wp2_with fail
   go_ret
   exact ⟨by rw [hf.out]; rfl, below_next HB2.out hb3⟩
  ·by_cases hz : act = false ∧ BN ≠ 0
   ·obtain ⟨rfl, hz⟩ := hz
    have hz1 : ((BN : Int) == 0) = false := beq_eq_false_iff_ne.2 (by omega)
    have hf2 : Hid (Tr.validC m = false) := by show _ = _; rw [hf.out, decide_eq_false hz]; rfl
    clear hz
    go_enter Tryz.func54, Tryz.ntmps54
    go_wp2_with fail
    refine (KV.out _ HB.out).mono ?_
    rintro e w2 ⟨rfl, hb2⟩
    have c1 := cell_keep' hb2 (HC.out 1 _ rfl)
    have c2 := cell_keep' hb2 (HC.out 2 _ rfl)
    have c3 := cell_keep' hb2 (HC.out 3 _ rfl)
    have HB2 := Lib.hid (below_next HB.out hb2)
    clear hb2
    go_wp2_with fail
    refine (KN.out _ HB2.out).mono ?_
    rintro e w3 ⟨rfl, hb3⟩
    have d1 := cell_keep' hb3 c1
    have d3 := cell_keep' hb3 c3
    have HB3 := Lib.hid (below_next HB2.out hb3)
    clear hb3
    go_wp2_with fail
    go_ret
    exact ⟨by rw [hf2.out]; rfl, HB3.out⟩
   ·have hf2 : Hid (Tr.validC m = q3) := by
     show _ = _
     rw [hf.out]
     have : (act || decide (BN = 0)) = true := by
      cases act
      ·rw [Bool.false_or]; exact decide_eq_true (by simpa using hz)
      ·rfl
     rw [this]; rfl
    have hz' : act = true ∨ (act = false ∧ BN = 0) := by
     cases act
     ·right; exact ⟨rfl, by simpa using hz⟩
     ·left; rfl
    clear hz
    rcases hz' with rfl | ⟨rfl, hz⟩
    ·go_enter Tryz.func54, Tryz.ntmps54
     go_wp2_with fail
     refine (KV.out _ HB.out).mono ?_
     rintro e w2 ⟨rfl, hb2⟩
     have c1 := cell_keep' hb2 (HC.out 1 _ rfl)
     have c2 := cell_keep' hb2 (HC.out 2 _ rfl)
     have c3 := cell_keep' hb2 (HC.out 3 _ rfl)
     have v1 := cell_keep' hb2 hV1.out
     have HB2 := Lib.hid (below_next HB.out hb2)
     clear hb2
     go_wp2_with fail
     refine (KN.out _ HB2.out).mono ?_
     rintro e w3 ⟨rfl, hb3⟩
     have d1 := cell_keep' hb3 c1
     have d3 := cell_keep' hb3 c3
     have v2 := cell_keep' hb3 v1
     have HB3 := Lib.hid (below_next HB2.out hb3)
     clear hb3
     go_wp2_with fail
     refine (KS.out _ HB3.out).mono ?_
     rintro e w4 ⟨rfl, hb4⟩
     go_wp2_with fail
     go_ret
     exact ⟨by rw [hf2.out]; rfl, below_next HB3.out hb4⟩
    ·have hz1 : ((BN : Int) == 0) = true := beq_iff_eq.2 (by omega)
     clear hz
     go_enter Tryz.func54, Tryz.ntmps54
     go_wp2_with fail
     refine (KV.out _ HB.out).mono ?_
     rintro e w2 ⟨rfl, hb2⟩
     have c1 := cell_keep' hb2 (HC.out 1 _ rfl)
     have c2 := cell_keep' hb2 (HC.out 2 _ rfl)
     have c3 := cell_keep' hb2 (HC.out 3 _ rfl)
     have v1 := cell_keep' hb2 hV1.out
     have HB2 := Lib.hid (below_next HB.out hb2)
     clear hb2
     go_wp2_with fail
     refine (KN.out _ HB2.out).mono ?_
     rintro e w3 ⟨rfl, hb3⟩
     have d1 := cell_keep' hb3 c1
     have d3 := cell_keep' hb3 c3
     have v2 := cell_keep' hb3 v1
     have HB3 := Lib.hid (below_next HB2.out hb3)
     clear hb3
     go_wp2_with fail
     refine (KS.out _ HB3.out).mono ?_
     rintro e w4 ⟨rfl, hb4⟩
     go_wp2_with fail
     go_ret
     exact ⟨by rw [hf2.out]; rfl, below_next HB3.out hb4⟩
theorem holdsC {w : World} (VB : Nat) (h : SynEnv w) (hV : w.cell? ⟨VB, 0, none⟩ = some (.func (.func 49) #[] #[])) (l : List Tr.C) (hf : Tr.fitP l) : HoldsC VB w Tr.validC l := fun W _ x a1 a2 hb hj hr => valid2_any VB x a1 a2 W (h.keep hb) (hf x (List.mem_of_getElem? hj)) (cell_keep' hb hV) hr
set_option maxRecDepth 100000 in
set_option maxHeartbeats 8000000 in
theorem valid_any (v : Value) (cs : List Tr.C) (w : World) (hE : SynEnv w) (hfit : Tr.fitP cs) (h : SlC w v cs) :
 Calls Tryz.prog 23 #[.agg #[v]] w fun r w' => r = .returned (.bool (Tr.validP cs)) ∧ Below w.heap.size w w' := by
 obtain ⟨p, c, rfl⟩ := h.form
 have KC : Hid (∀ W, Below w.heap.size w W → ∀ VB, W.cell? ⟨VB, 0, none⟩ = some (.func (.func 49) #[] #[]) → Calls Tryz.prog 53 #[.slice p cs.length c, .func (.func 54) #[] #[.pointer (some ⟨VB, 0, none⟩)]] W fun e w' => e = .returned (.bool (Tr.validP cs)) ∧ Below W.heap.size W w') := fun W hb VB hV =>
  allC_any VB Tr.validC cs W (holdsC VB (hE.keep hb) hV _ hfit) _ (h.keep hb)
 obtain ⟨N, hN⟩ : ∃ N, cs.length = N := ⟨_, rfl⟩
 rw [hN] at KC ⊢
 have hbx := below_next (below_box w (.cells #[.slice p N c] 25)) (below_box (w.alloc (.cells #[.slice p N c] 25)) (.cells #[.func (.func 49) #[] #[]] 96))
 have hcl2 := box_cell (w.alloc (.cells #[.slice p N c] 25)) #[.func (.func 49) #[] #[]] 96 0 _ rfl
 simp only [World.size_alloc] at hcl2
 have HC := Lib.hid (KC.out _ hbx _ hcl2)
 have HBX := Lib.hid hbx
 clear h hE hfit hN hbx hcl2 KC
 go_enter Tryz.func23, Tryz.ntmps23
 go_wp2_with fail
 refine HC.out.mono ?_
 rintro e w2 ⟨rfl, hb2⟩
 go_wp2_with fail
 go_ret
 exact ⟨rfl, below_next HBX.out hb2⟩
end Go.Proofs.YtdckddkalgnlpaaGreatDoor
namespace Go.Proofs.YtdckddkalgnlpaaGreatDoor
open Go.RowKit
theorem Sy.par_lt {req v : Nat} {t : List UInt8} (h : v < req) : Sy.par req (v, t) = [40] ++ t ++ [41] := by unfold Sy.par; rw [if_pos h]
theorem Sy.par_ge {req v : Nat} {t : List UInt8} (h : ¬ v < req) : Sy.par req (v, t) = t := by unfold Sy.par; rw [if_neg h]
theorem valid_op {e : Tr.E} (hv : Tr.validE e = true) : e.kind = 10 → 0 ≤ e.op ∧ e.op ≤ 12 := by
 obtain ⟨k, o, i, nm, a, ls⟩ := e
 rw [Tr.validE, Bool.and_eq_true] at hv
 intro h
 change k = 10 at h
 rcases okE_forms hv.2 with h1 | h1 | h1 | h1 | h1 | h1 | h1 | h1 | h1 | h1 | h1
 all_goals first | exact ⟨h1.2.2.1, h1.2.2.2⟩ | omega
set_option maxRecDepth 100000 in
set_option maxHeartbeats 8000000 in
theorem exprC {w0 : World} (hE : PrEnv w0) : ∀ d, ExprC w0 d := by
 intro d
 induction d with
 | zero => intro e p N c B b l deep w req hd; have := e.deep_pos; omega
 | succ d ih =>
   intro e p N c B b l deep w req hd hv hN hS hI hlen
   have KLV : Hid (∀ W, Below w0.heap.size w0 W → Calls Tryz.prog 89 #[exprV e (.slice p N c)] W fun r w' => r = .returned (.int .i64 (Sy.level e : Nat)) ∧ w' = W.alloc (.cells #[.int .i64 e.kind, .int .i64 e.op, .int .i64 e.int, .string e.name, .bool e.at_, .slice p N c] 33)) := fun W hb => level_any e p N c w0 W hE hb (valid_op hv)
   have KP : Hid (∀ W l', PrIn w0 B b l' deep W → l'.length + (Sy.text e).length ≤ 140737488355328 → Calls Tryz.prog 91 #[.pointer (some ⟨b, 0, none⟩), exprV e (.slice p N c)] W (PrPost B b l' (Sy.text e) deep W)) := fun W l' h1 h2 => plain_any ih hE e p N c hd hv hN hS B b l' deep W h1 h2
   obtain ⟨TX, hTX⟩ : ∃ q, Sy.text e = q := ⟨_, rfl⟩
   obtain ⟨LV, hLV⟩ : ∃ q, Sy.level e = q := ⟨_, rfl⟩
   rw [hTX] at hlen KP ⊢
   rw [hLV] at hlen KLV ⊢
   unfold exprV at KLV KP ⊢
   obtain ⟨k, o, i, nm, a, ls⟩ := e
   simp only [Tr.E.kind, Tr.E.op, Tr.E.int, Tr.E.name, Tr.E.at_] at KLV KP ⊢
   have HI := Lib.hid hI
   have hlt := hI.lt
   have HNB : Hid (w.heap.size ≠ b) := by show _ ≠ _; omega
   obtain ⟨w1, hw1⟩ : ∃ q, q = w.alloc (.cells #[.int .i64 k, .int .i64 o, .int .i64 i, .string nm, .bool a, .slice p N c] 33) := ⟨_, rfl⟩
   have hc1 : w1.heap[w.heap.size]? = some (.cells #[.int .i64 k, .int .i64 o, .int .i64 i, .string nm, .bool a, .slice p N c] 33 (0, 0)) := by rw [hw1]; exact (MapKept.heap_alloc w _).1
   have hi1 : PrIn w0 B b l deep w1 := by rw [hw1]; exact hI.box _
   have hk1 : Pk B b w w1 := by rw [hw1]; exact hI.pk _
   have HW1 := Lib.hid hw1
   have HC1 := Lib.hid hc1
   have HI1 := Lib.hid hi1
   have HK1 := Lib.hid hk1
   clear hI hd hv hN hS hTX hLV hw1 hc1 hi1 hk1 hlt ih
   have e0 := cell_of_blkP HC1.out (j := 0) (u := .int .i64 k) rfl
   have e1 := cell_of_blkP HC1.out (j := 1) (u := .int .i64 o) rfl
   have e2 := cell_of_blkP HC1.out (j := 2) (u := .int .i64 i) rfl
   have e3 := cell_of_blkP HC1.out (j := 3) (u := .string nm) rfl
   have e4 := cell_of_blkP HC1.out (j := 4) (u := .bool a) rfl
   have e5 := cell_of_blkP HC1.out (j := 5) (u := .slice p N c) rfl
   go_enter Tryz.func44, Tryz.ntmps44
   go_wp2_with fail
   rw [← HW1.out]
   refine (KLV.out w1 HI1.out.base).mono ?_
   rintro e' w2 ⟨rfl, hw2⟩
   have hi2 : PrIn w0 B b l deep w2 := by rw [hw2]; exact HI1.out.box _
   have hk2 : Pk B b w w2 := by rw [hw2]; exact HK1.out.trans (HI1.out.pk _)
   have hc2 : w2.heap[w.heap.size]? = some (.cells #[.int .i64 k, .int .i64 o, .int .i64 i, .string nm, .bool a, .slice p N c] 33 (0, 0)) := by
    rw [hw2]; exact ((below_box w1 _).block _ (Array.getElem?_eq_some_iff.1 HC1.out).1).trans HC1.out
   have HI2 := Lib.hid hi2
   have HK2 := Lib.hid hk2
   have HC2 := Lib.hid hc2
   clear hw2 hi2 hk2 hc2 e0 e1 e2 e3 e4 e5 HW1
   by_cases hlr : LV < req
   ·rw [Sy.par_lt hlr] at hlen
    have HLR := Lib.hid hlr
    have hlr2 : (LV : Int) < (req : Int) := by omega
    have HL := Lib.hid hlen
    have KW := Lib.hid (wr_any HI2.out [⟨#[40]⟩] 1 #[.string ⟨#[40]⟩] [40] rfl rfl (by simp [flatB]) (by have := HL.out; simp only [List.length_append, List.length_cons, List.length_nil] at this ⊢; omega) (by decide))
    clear hlen hlr
    go_wp2_with fail
    refine KW.out.mono ?_
    rintro e' w3 ⟨rfl, hs, hk⟩
    have HI3 := Lib.hid (HI2.out.next hs hk)
    have HK3 := Lib.hid (HK2.out.trans hk)
    have HC3 := Lib.hid (hk.box HC2.out HNB.out (by decide))
    clear hs hk
    have e0 := cell_of_blkP HC3.out (j := 0) (u := .int .i64 k) rfl
    have e1 := cell_of_blkP HC3.out (j := 1) (u := .int .i64 o) rfl
    have e2 := cell_of_blkP HC3.out (j := 2) (u := .int .i64 i) rfl
    have e3 := cell_of_blkP HC3.out (j := 3) (u := .string nm) rfl
    have e4 := cell_of_blkP HC3.out (j := 4) (u := .bool a) rfl
    have e5 := cell_of_blkP HC3.out (j := 5) (u := .slice p N c) rfl
    have KP3 := Lib.hid (KP.out w3 _ HI3.out (by have := HL.out; simp only [List.length_append, List.length_cons, List.length_nil] at this ⊢; omega))
    go_wp2_with fail
    refine KP3.out.mono ?_
    rintro e' w4 ⟨rfl, hs, hk⟩
    have HI4 := Lib.hid (HI3.out.next hs hk)
    have HK4 := Lib.hid (HK3.out.trans hk)
    clear hs hk e0 e1 e2 e3 e4 e5
    have KW4 := Lib.hid (wr_any HI4.out [⟨#[41]⟩] 1 #[.string ⟨#[41]⟩] [41] rfl rfl (by simp [flatB]) (by have := HL.out; simp only [List.length_append, List.length_cons, List.length_nil] at this ⊢; omega) (by decide))
    go_wp2_with fail
    refine KW4.out.mono ?_
    rintro e' w5 ⟨rfl, hs, hk⟩
    have HS5 := Lib.hid hs
    have HK5 := Lib.hid (HK4.out.trans hk)
    clear hs hk
    go_wp2_with fail
    go_end0
    exact ⟨rfl, by have h1 := HS5.out; rw [Sy.par_lt HLR.out]; simp only [List.append_assoc] at h1 ⊢; exact h1, HK5.out⟩
   ·rw [Sy.par_ge hlr] at hlen
    have HLR := Lib.hid hlr
    have hlr2 : ¬ (LV : Int) < (req : Int) := by omega
    have KP3 := Lib.hid (KP.out w2 _ HI2.out hlen)
    clear hlen hlr
    have e0 := cell_of_blkP HC2.out (j := 0) (u := .int .i64 k) rfl
    have e1 := cell_of_blkP HC2.out (j := 1) (u := .int .i64 o) rfl
    have e2 := cell_of_blkP HC2.out (j := 2) (u := .int .i64 i) rfl
    have e3 := cell_of_blkP HC2.out (j := 3) (u := .string nm) rfl
    have e4 := cell_of_blkP HC2.out (j := 4) (u := .bool a) rfl
    have e5 := cell_of_blkP HC2.out (j := 5) (u := .slice p N c) rfl
    go_wp2_with fail
    refine KP3.out.mono ?_
    rintro e' w4 ⟨rfl, hs, hk⟩
    have HS4 := Lib.hid hs
    have HK4 := Lib.hid (HK2.out.trans hk)
    clear hs hk e0 e1 e2 e3 e4 e5
    go_wp2_with fail
    go_end0
    exact ⟨rfl, by rw [Sy.par_ge HLR.out]; exact HS4.out, HK4.out⟩
structure SyEnv (w : World) : Prop where
 syn : SynEnv w
 pr : PrEnv w
theorem PrEnv.keep {w w' : World} (h : PrEnv w) (hb : Below w.heap.size w w') : PrEnv w' := ⟨fun o ho => ⟨cell_keep' hb (h.ops o ho).1, cell_keep' hb (h.ops o ho).2⟩, tab_keep h.tab hb⟩
theorem SyEnv.keep {w w' : World} (h : SyEnv w) (hb : Below w.heap.size w w') : SyEnv w' := ⟨h.syn.keep hb, h.pr.keep hb⟩
set_option maxRecDepth 100000 in
set_option maxHeartbeats 8000000 in
theorem syExpr_any (e : Tr.E) (a : Value) (w : World) (hE : SyEnv w) (hbd : BdE e) (hS : SlE w a e.args) (hlen : (Sy.text e).length ≤ 140737488355328) :
 Calls Tryz.prog 20 #[exprV e a] w fun r w' => r = .returned (.string ⟨(Sy.exprText e).toArray⟩) ∧ Below w.heap.size w w' := by
 obtain ⟨p, c, rfl, _⟩ := hS.form
 obtain ⟨N, hN⟩ : ∃ q, e.args.length = q := ⟨_, rfl⟩
 rw [hN] at hS ⊢
 have hB := below_box w (.cells #[.int .i64 e.kind, .int .i64 e.op, .int .i64 e.int, .string e.name, .bool e.at_, .slice p N c] 33)
 have hcv := (MapKept.heap_alloc w (.cells #[.int .i64 e.kind, .int .i64 e.op, .int .i64 e.int, .string e.name, .bool e.at_, .slice p N c] 33)).1
 obtain ⟨w1, hw1⟩ : ∃ q, q = w.alloc (.cells #[.int .i64 e.kind, .int .i64 e.op, .int .i64 e.int, .string e.name, .bool e.at_, .slice p N c] 33) := ⟨_, rfl⟩
 rw [← hw1] at hB hcv
 have KV := Lib.hid (validExpr_any _ e (.slice p N c) w1 (Nat.le_refl _) (hE.syn.lex.keep hB) hbd (hS.keep hB))
 have HW1 := Lib.hid hw1
 have HB1 := Lib.hid hB
 have HC1 := Lib.hid hcv
 have HE := Lib.hid hE
 have HS := Lib.hid hS
 have HN := Lib.hid hN
 have HLEN := Lib.hid hlen
 have e0 := cell_of_blkP HC1.out (j := 0) (u := .int .i64 e.kind) rfl
 have e1 := cell_of_blkP HC1.out (j := 1) (u := .int .i64 e.op) rfl
 have e2 := cell_of_blkP HC1.out (j := 2) (u := .int .i64 e.int) rfl
 have e3 := cell_of_blkP HC1.out (j := 3) (u := .string e.name) rfl
 have e4 := cell_of_blkP HC1.out (j := 4) (u := .bool e.at_) rfl
 have e5 := cell_of_blkP HC1.out (j := 5) (u := .slice p N c) rfl
 unfold exprV at KV ⊢
 clear hE hbd hS hlen hN hw1 hB hcv
 cases hv : Tr.validE e
 ·rw [hv] at KV
  have HV := Lib.hid hv
  clear hv
  go_enter Tryz.func20, Tryz.ntmps20
  go_wp2_with fail
  rw [← HW1.out]
  refine KV.out.mono ?_
  rintro e' w2 ⟨rfl, hb2⟩
  have HB2 := Lib.hid (below_next HB1.out hb2)
  clear hb2 e0 e1 e2 e3 e4 e5
  go_wp2_with fail
  go_ret
  exact ⟨by unfold Sy.exprText; rw [HV.out]; rfl, HB2.out⟩
 ·rw [hv] at KV
  have HV := Lib.hid hv
  clear hv
  go_enter Tryz.func20, Tryz.ntmps20
  go_wp2_with fail
  rw [← HW1.out]
  refine KV.out.mono ?_
  rintro e' w2 ⟨rfl, hb2⟩
  have HB2 := Lib.hid (below_next HB1.out hb2)
  have HC2 := Lib.hid ((hb2.block _ (Array.getElem?_eq_some_iff.1 HC1.out).1).trans HC1.out)
  clear hb2 e0 e1 e2 e3 e4 e5 HW1
  obtain ⟨w3, hw3⟩ : ∃ q, q = w2.alloc (.cells #[.pointer none, .slice none 0 0, .int .i64 0] 87) := ⟨_, rfl⟩
  have hb3 := below_box w2 (.cells #[.pointer none, .slice none 0 0, .int .i64 0] 87)
  have hi3 : PrIn w2 w2.heap.size w2.heap.size [] 0 w3 := by
   rw [hw3]
   exact ⟨.inl ⟨Nat.le_refl _, _, (MapKept.heap_alloc w2 _).1, World.ownsRow_nil _ _ _ _, fun _ => rfl⟩, hb3, Nat.le_refl _, hb3.size⟩
  rw [← hw3] at hb3
  have hc3 := (hb3.block _ (Array.getElem?_eq_some_iff.1 HC2.out).1).trans HC2.out
  have e0 := cell_of_blkP hc3 (j := 0) (u := .int .i64 e.kind) rfl
  have e1 := cell_of_blkP hc3 (j := 1) (u := .int .i64 e.op) rfl
  have e2 := cell_of_blkP hc3 (j := 2) (u := .int .i64 e.int) rfl
  have e3 := cell_of_blkP hc3 (j := 3) (u := .string e.name) rfl
  have e4 := cell_of_blkP hc3 (j := 4) (u := .bool e.at_) rfl
  have e5 := cell_of_blkP hc3 (j := 5) (u := .slice p N c) rfl
  have kx := exprC (HE.out.pr.keep HB2.out) e.deep e p N c w2.heap.size w2.heap.size [] 0 w3 1 (Nat.le_refl _) HV.out HN.out (HS.out.keep HB2.out) hi3 (by rw [Sy.par_one]; simpa using HLEN.out)
  rw [Sy.par_one] at kx
  unfold exprV at kx
  rw [hw3] at e0 e1 e2 e3 e4 e5
  have HW3 := Lib.hid hw3
  have KX := Lib.hid kx
  have HI3 := Lib.hid hi3
  clear hw3 hb3 hi3 hc3 kx
  go_wp2_with fail
  rw [← HW3.out]
  refine KX.out.mono ?_
  rintro e' w4 ⟨rfl, hs4, hk4⟩
  have KS := Lib.hid (prString_any w4 hs4)
  have hbz : Below w.heap.size w w4 := HB2.out.trans ((HI3.out.next hs4 hk4).base.mono HB2.out.size)
  have HBZ := Lib.hid hbz
  have HI4 := Lib.hid (HI3.out.next hs4 hk4)
  have HB24 := Lib.hid HB2.out.size
  clear hs4 hk4 hbz e0 e1 e2 e3 e4 e5 HW3
  go_wp2_with fail
  refine KS.out.mono ?_
  rintro e' w5 ⟨rfl, hb5⟩
  have HB5 := Lib.hid (HBZ.out.trans (hb5.mono HB24.out))
  clear hb5
  go_wp2_with fail
  go_ret
  exact ⟨by unfold Sy.exprText; rw [HV.out]; rfl, HB5.out⟩
end Go.Proofs.YtdckddkalgnlpaaGreatDoor
namespace Go.Proofs.YtdckddkalgnlpaaGreatDoor
open Go.RowKit
theorem repeat_ind : ∀ d : Nat, Lib.repeatL [32, 32] d = Sy.ind d := by
 intro d
 unfold Sy.ind
 induction d with
 | zero => rfl
 | succ n ih =>
   have e : 2 * (n + 1) = 2 + 2 * n := by omega
   rw [e, ← List.replicate_append_replicate, ← ih]
   rfl
set_option maxRecDepth 100000 in
set_option maxHeartbeats 4000000 in
theorem line_any {w0 : World} {B b : Nat} {l : List UInt8} {deep : Nat} {w : World} (hI : PrIn w0 B b l deep w) (F : Nat) (caps : Array Value) (t : List UInt8) (hd : deep ≤ 1000000) (hlen : l.length + (Sy.line deep t).length ≤ 140737488355328)
 (hent : ∀ args W, (callFunc F args).run Tryz.prog W = .ok (.enter F args) W)
 (HF : ∀ W, Pk B b w W → PrIn w0 B b (l ++ Sy.ind deep) deep W → Calls Tryz.prog F caps W (PrPost B b (l ++ Sy.ind deep) t deep W)) :
 Calls Tryz.prog 145 #[.pointer (some ⟨b, 0, none⟩), .func (.func F) #[] caps] w (PrPost B b l (Sy.line deep t) deep w) := by
 have hl : (Sy.ind deep).length = 2 * deep := by unfold Sy.ind; rw [List.length_replicate]
 have hlen2 : l.length + (2 * deep + t.length + 1) ≤ 140737488355328 := by
  unfold Sy.line at hlen
  simp only [List.length_append, List.length_cons, List.length_nil, hl] at hlen
  omega
 have KR := Lib.hid (Tryz.strings_Repeat ⟨#[32, 32]⟩ deep w (by omega) (by show 2 * deep ≤ _; omega))
 have HI := Lib.hid hI
 have HH := Lib.hid HF
 have c2 := hI.st.cell2
 have hlt := hI.lt
 clear hI HF hlen
 go_enter Tryz.func145, Tryz.ntmps145
 go_wp2_with fail
 refine KR.out.mono ?_
 rintro e' w2 ⟨rfl, hb2⟩
 rw [repeat_ind]
 have HI2 := Lib.hid (HI.out.below hb2)
 have HK2 : Hid (Pk B b w w2) := Pk.of_below hb2 HI.out.leB
 have KW := Lib.hid (wr_any HI2.out [⟨(Sy.ind deep).toArray⟩] 1 #[.string ⟨(Sy.ind deep).toArray⟩] (Sy.ind deep) rfl rfl (by simp [flatB]) (by omega) (by decide))
 clear hb2 c2 hlt
 go_wp2_with fail
 refine KW.out.mono ?_
 rintro e' w3 ⟨rfl, hs, hk⟩
 have HI3 := Lib.hid (HI2.out.next hs hk)
 have HK3 := Lib.hid (HK2.out.trans hk)
 have KF := Lib.hid (HH.out w3 HK3.out HI3.out)
 clear hs hk
 go_wp2_with fail
 refine KF.out.mono ?_
 rintro e' w4 ⟨rfl, hs, hk⟩
 have HI4 := Lib.hid (HI3.out.next hs hk)
 have HK4 := Lib.hid (HK3.out.trans hk)
 clear hs hk
 have KW4 := Lib.hid (wr_any HI4.out [⟨#[10]⟩] 1 #[.string ⟨#[10]⟩] [10] rfl rfl (by simp [flatB]) (by simp only [List.length_append, List.length_cons, List.length_nil, hl]; omega) (by decide))
 go_wp2_with fail
 refine KW4.out.mono ?_
 rintro e' w5 ⟨rfl, hs, hk⟩
 have HS5 := Lib.hid hs
 have HK5 := Lib.hid (HK4.out.trans hk)
 clear hs hk
 go_wp2_with fail
 go_end0
 exact ⟨rfl, by have h1 := HS5.out; unfold Sy.line; simp only [List.append_assoc] at h1 ⊢; exact h1, HK5.out⟩
set_option maxRecDepth 100000 in
set_option maxHeartbeats 4000000 in
theorem word_any {w0 : World} {B b : Nat} {l : List UInt8} {deep : Nat} {W : World} (hI : PrIn w0 B b l deep W) (ts : List ByteArray) (n : Nat) (cs : Array Value) (t : List UInt8) (hcs : cs = (ts.map Value.string).toArray) (hn : ts.length = n) (ht : flatB ts = t) (hd : deep ≤ 1000000)
 (hlen : l.length + (Sy.line deep t).length ≤ 140737488355328) (hn2 : n ≤ 1000000) :
 Calls Tryz.prog 93 #[.pointer (some ⟨b, 0, none⟩), .slice (some ⟨W.heap.size, 0, none⟩) n n] (W.alloc (.cells cs 9)) (PrPost B b l (Sy.line deep t) deep W) := by
 subst hcs ht
 have hlt := hI.lt
 obtain ⟨w1, hw1⟩ : ∃ q, q = W.alloc (.cells (ts.map Value.string).toArray 9) := ⟨_, rfl⟩
 obtain ⟨w2, hw2⟩ : ∃ q, q = w1.alloc (.cells #[.pointer (some ⟨b, 0, none⟩)] 81) := ⟨_, rfl⟩
 obtain ⟨w3, hw3⟩ : ∃ q, q = w2.alloc (.cells #[.slice (some ⟨W.heap.size, 0, none⟩) n n] 46) := ⟨_, rfl⟩
 have hs1 : w1.heap.size = W.heap.size + 1 := by rw [hw1]; exact World.size_alloc _ _
 have hs2 : w2.heap.size = W.heap.size + 1 + 1 := by rw [hw2, World.size_alloc, hs1]
 have hb2 := below_box w1 (.cells #[.pointer (some ⟨b, 0, none⟩)] 81)
 have hb3 := below_box w2 (.cells #[.slice (some ⟨W.heap.size, 0, none⟩) n n] 46)
 have hc1 : w1.heap[W.heap.size]? = some (.cells (ts.map Value.string).toArray 9 (0, 0)) := by rw [hw1]; exact (MapKept.heap_alloc W _).1
 have hc2 : w2.heap[W.heap.size + 1]? = some (.cells #[.pointer (some ⟨b, 0, none⟩)] 81 (0, 0)) := by rw [← hs1, hw2]; exact (MapKept.heap_alloc w1 _).1
 have hc3 : w3.heap[W.heap.size + 1 + 1]? = some (.cells #[.slice (some ⟨W.heap.size, 0, none⟩) n n] 46 (0, 0)) := by rw [← hs2, hw3]; exact (MapKept.heap_alloc w2 _).1
 rw [← hw2] at hb2
 rw [← hw3] at hb3
 have hc1' := (hb3.block _ (by omega)).trans ((hb2.block _ (by omega)).trans hc1)
 have hc2' := (hb3.block _ (by omega)).trans hc2
 have hi3 : PrIn w0 B b l deep w3 := by rw [hw3, hw2, hw1]; exact ((hI.box _).box _).box _
 have hk3 : Pk B b W w3 := by rw [hw3, hw2, hw1]; exact ((hI.pk _).trans ((hI.box _).pk _)).trans (((hI.box _).box _).pk _)
 have hl : (Sy.ind deep).length = 2 * deep := by unfold Sy.ind; rw [List.length_replicate]
 have hlen2 : l.length + (2 * deep + (flatB ts).length + 1) ≤ 140737488355328 := by
  unfold Sy.line at hlen
  simp only [List.length_append, List.length_cons, List.length_nil, hl] at hlen
  omega
 have KL := Lib.hid (line_any hi3 146 #[.pointer (some ⟨W.heap.size + 1, 0, none⟩), .pointer (some ⟨W.heap.size + 1 + 1, 0, none⟩)] (flatB ts) hd hlen (enters_of Tryz.func146 (by kernel_rfl) rfl) (fun V hk hi => by
  have kw := write_any hi ts W.heap.size n (hk.box hc1' (by omega) (by decide)) (by omega) hn (by rw [List.length_append, hl]; omega) hn2
  have q2 := cell_of_blkP (hk.box hc2' (by omega) (by decide)) (j := 0) (u := .pointer (some ⟨b, 0, none⟩)) rfl
  have q3 := cell_of_blkP (hk.box hc3 (by omega) (by decide)) (j := 0) (u := .slice (some ⟨W.heap.size, 0, none⟩) n n) rfl
  have KW := Lib.hid kw
  clear kw hk hi
  go_enter Tryz.func146, Tryz.ntmps146
  go_wp2_with fail
  refine KW.out.mono ?_
  rintro e' w9 ⟨rfl, hs, hk⟩
  have HS9 := Lib.hid hs
  have HK9 := Lib.hid hk
  clear hs hk q2 q3
  go_wp2_with fail
  go_end0
  exact ⟨rfl, HS9.out, HK9.out⟩))
 have HK3 := Lib.hid hk3
 have HW3 : Hid (w3 = ((W.alloc (.cells (ts.map Value.string).toArray 9)).alloc (.cells #[.pointer (some ⟨b, 0, none⟩)] 81)).alloc (.cells #[.slice (some ⟨W.heap.size, 0, none⟩) n n] 46)) := by show _ = _; rw [hw3, hw2, hw1]
 clear hw1 hw2 hw3 hs1 hs2 hb2 hb3 hc1 hc2 hc3 hc1' hc2' hi3 hk3 hl hlen2 hI hlen hlt
 go_enter Tryz.func93, Tryz.ntmps93
 go_wp2_with fail
 rw [← HW3.out]
 refine KL.out.mono ?_
 rintro e' w4 ⟨rfl, hs, hk⟩
 have HS4 := Lib.hid hs
 have HK4 := Lib.hid (HK3.out.trans hk)
 clear hs hk
 go_wp2_with fail
 go_end0
 exact ⟨rfl, HS4.out, HK4.out⟩
end Go.Proofs.YtdckddkalgnlpaaGreatDoor
namespace Go.Proofs.YtdckddkalgnlpaaGreatDoor
open Go.RowKit
theorem PrIn.next2 {w0 : World} {B b : Nat} {l l' : List UInt8} {deep deep' : Int} {w w' : World} (h : PrIn w0 B b l deep w) (hs : PrSt B b l' deep' w') (hk : Pk B b w w') : PrIn w0 B b l' deep' w' :=
 ⟨hs, h.base.trans (hk.below.mono h.le), h.le, Nat.le_trans h.leB hk.below.size⟩
set_option maxRecDepth 100000 in
set_option maxHeartbeats 4000000 in
theorem block_any {w0 : World} {B b : Nat} {l : List UInt8} {deep : Nat} {w : World} (hI : PrIn w0 B b l deep w) (F : Nat) (caps : Array Value) (t : List UInt8) (hd : deep ≤ 1000000)
 (hent : ∀ args W, (callFunc F args).run Tryz.prog W = .ok (.enter F args) W)
 (HF : ∀ W, Pk B b w W → PrIn w0 B b l ((deep + 1 : Nat) : Int) W → Calls Tryz.prog F caps W (PrPost B b l t ((deep + 1 : Nat) : Int) W)) :
 Calls Tryz.prog 94 #[.pointer (some ⟨b, 0, none⟩), .func (.func F) #[] caps] w (PrPost B b l t deep w) := by
 have c2 := hI.st.cell2
 have f2 := hI.st.free 2
 have bw : IntKind.i64.wrap ((deep : Int) + 1) = (deep : Int) + 1 := IntWalk.i64_in _ (by omega)
 have hk := (Pk.refl B b w).set hI.st.hB 2 (.int .i64 ((deep : Int) + 1))
 have hs := hI.st.set2 ((deep : Int) + 1)
 obtain ⟨w1, hw1⟩ : ∃ q, q = w.setCell ⟨b, 2, none⟩ (.int .i64 ((deep : Int) + 1)) := ⟨_, rfl⟩
 rw [← hw1] at hk hs
 have hi1 : PrIn w0 B b l ((deep + 1 : Nat) : Int) w1 := hI.next2 (deep' := ((deep + 1 : Nat) : Int)) (by rw [Int.natCast_add]; exact hs) hk
 have KF := Lib.hid (HF w1 hk hi1)
 have HI1 := Lib.hid hi1
 have HK1 := Lib.hid hk
 have HW1 := Lib.hid hw1
 clear hI HF hk hs hw1 hi1
 go_enter Tryz.func94, Tryz.ntmps94
 go_wp2_with fail
 rw [← HW1.out]
 refine KF.out.mono ?_
 rintro e' w2 ⟨rfl, hs, hk⟩
 have d2 := hs.cell2
 have g2 := hs.free 2
 have bw2 : IntKind.i64.wrap (((deep + 1 : Nat) : Int) - 1) = (deep : Int) := by rw [Int.natCast_add]; rw [show ((deep : Int) + ((1 : Nat) : Int)) - 1 = (deep : Int) by omega]; exact IntWalk.i64_in _ (by omega)
 have HS2 := Lib.hid (hs.set2 (deep : Int))
 have HK2 := Lib.hid ((HK1.out.trans hk).set hs.hB 2 (.int .i64 (deep : Int)))
 clear hs hk c2 f2 HW1
 go_wp2_with fail
 go_end0
 exact ⟨rfl, HS2.out, HK2.out⟩
set_option maxRecDepth 100000 in
set_option maxHeartbeats 4000000 in
theorem arg_any {w0 : World} (hE : PrEnv w0) (xs : List Tr.E) (hv : ∀ x ∈ xs, Tr.validE x = true) (px : Option Addr) (XN cx : Nat) (hS : SlE w0 (.slice px XN cx) xs) (hN : xs.length = XN) (j : Nat) (x : Tr.E) (hx : xs[j]? = some x) (req : Nat) (k : Int) (nm : ByteArray) (vy vz : Value) (pb sb B b : Nat) (l : List UInt8) (deep : Int) (w : World)
 (hI : PrIn w0 B b l deep w) (hpb : w.heap[pb]? = some (.cells #[.pointer (some ⟨b, 0, none⟩)] 81 (0, 0))) (hsb : w.heap[sb]? = some (.cells #[.int .i64 k, .string nm, .slice px XN cx, vy, vz] 94 (0, 0)))
 (hlen : l.length + (Sy.par req (Sy.level x, Sy.text x)).length ≤ 140737488355328) :
 Calls Tryz.prog 195 #[.int .i64 j, .int .i64 req, .pointer (some ⟨pb, 0, none⟩), .pointer (some ⟨sb, 0, none⟩)] w (PrPost B b l (Sy.par req (Sy.level x, Sy.text x)) deep w) := by
 have cp := cell_of_blkP hpb (j := 0) (u := .pointer (some ⟨b, 0, none⟩)) rfl
 have cs := cell_of_blkP hsb (j := 2) (u := .slice px XN cx) rfl
 obtain ⟨b', o', aa, rfl, _, hc, hbd, hsl⟩ := hS.get hx
 have hj : j < XN := by rw [← hN]; exact (List.getElem?_eq_some_iff.1 hx).1
 obtain ⟨pa, ca, rfl, _⟩ := hsl.form
 obtain ⟨AN, hAN⟩ : ∃ q, x.args.length = q := ⟨_, rfl⟩
 rw [hAN] at hsl hc
 obtain ⟨y0, y1, y2, y3, y4, y5⟩ := hc.keep hI.base
 have hm := hv x (List.mem_of_getElem? hx)
 have hi2 := hI.drew
 have hcall := exprC hE x.deep x pa AN ca B b l deep w.drew req (Nat.le_refl _) hm hAN hsl hi2 hlen
 unfold exprV at hcall
 have HCALL := Lib.hid hcall
 have HK2 := Lib.hid (Pk.refl B b w).drew
 have b3 : (j : Int) < (XN : Int) := by omega
 have hl1 := cell_lt' cs
 have hl2 := cell_lt' y0
 have hl3 := cell_lt' cp
 clear hI hpb hsb hc hbd hsl hx hN hAN hS hv hm hi2 hcall hj
 go_enter Tryz.func195, Tryz.ntmps195
 go_wp2_with fail
 go_still_tail 7, (by kernel_rfl)
 change wpList _ _ _ _ _ w.drew
 obtain ⟨w3, hw3⟩ : ∃ q, q = w.drew := ⟨_, rfl⟩
 rw [← hw3] at HCALL HK2 ⊢
 clear hw3 cp cs y0 y1 y2 y3 y4 y5 hl1 hl2 hl3 b3
 go_wp2_with fail
 refine HCALL.out.mono ?_
 rintro e' w4 ⟨rfl, hs4, hk4⟩
 have HS4 := Lib.hid hs4
 have HK4 := Lib.hid (HK2.out.trans hk4)
 clear hs4 hk4
 go_wp2_with fail
 go_end0
 exact ⟨rfl, HS4.out, HK4.out⟩
end Go.Proofs.YtdckddkalgnlpaaGreatDoor
