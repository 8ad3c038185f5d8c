/-
  The printer's expr and syntax.Expr, walked: the text of an expression.
-/
import Derived.Test.YtlgfickhkejdjaaGreatDoorMSyPlain
import Derived.Test.YtlgfickhkejdjaaGreatDoorMTrProgE
namespace Go.Proofs.YtlgfickhkejdjaaGreatDoor
open Go.RowKit

theorem Sy.par_lt {req v : Nat} {t : List UInt8} (h : v < req) : Sy.par req (v, t) = [40] ++ t ++ [41] := by unfold Sy.par; rw [if_pos h]
theorem Sy.par_ge {req v : Nat} {t : List UInt8} (h : ¬ v < req) : Sy.par req (v, t) = t := by unfold Sy.par; rw [if_neg h]
theorem valid_op {e : Tr.E} (hv : Tr.validE e = true) : e.kind = 10 → 0 ≤ e.op ∧ e.op ≤ 12 := by
  obtain ⟨k, o, i, nm, a, ls⟩ := e
  rw [Tr.validE, Bool.and_eq_true] at hv
  intro h
  change k = 10 at h
  rcases okE_forms hv.2 with h1 | h1 | h1 | h1 | h1 | h1 | h1 | h1 | h1 | h1 | h1
  all_goals first | exact ⟨h1.2.2.1, h1.2.2.2⟩ | omega

set_option maxRecDepth 100000 in
set_option maxHeartbeats 8000000 in
theorem exprC {w0 : World} (hE : PrEnv w0) : ∀ d, ExprC w0 d := by
  intro d
  induction d with
  | zero => intro e p N c B b l deep w req hd; have := e.deep_pos; omega
  | succ d ih =>
    intro e p N c B b l deep w req hd hv hN hS hI hlen
    have KLV : Hid (∀ W, Below w0.heap.size w0 W → Calls Tryz.prog 76 #[exprV e (.slice p N c)] W fun r w' => r = .returned (.int .i64 (Sy.level e : Nat)) ∧ w' = W.alloc (.cells #[.int .i64 e.kind, .int .i64 e.op, .int .i64 e.int, .string e.name, .bool e.at_, .slice p N c] 24)) := fun W hb => level_any e p N c w0 W hE hb (valid_op hv)
    have KP : Hid (∀ W l', PrIn w0 B b l' deep W → l'.length + (Sy.text e).length ≤ 140737488355328 → Calls Tryz.prog 78 #[.pointer (some ⟨b, 0, none⟩), exprV e (.slice p N c)] W (PrPost B b l' (Sy.text e) deep W)) := fun W l' h1 h2 => plain_any ih hE e p N c hd hv hN hS B b l' deep W h1 h2
    obtain ⟨TX, hTX⟩ : ∃ q, Sy.text e = q := ⟨_, rfl⟩
    obtain ⟨LV, hLV⟩ : ∃ q, Sy.level e = q := ⟨_, rfl⟩
    rw [hTX] at hlen KP ⊢
    rw [hLV] at hlen KLV ⊢
    unfold exprV at KLV KP ⊢
    obtain ⟨k, o, i, nm, a, ls⟩ := e
    simp only [Tr.E.kind, Tr.E.op, Tr.E.int, Tr.E.name, Tr.E.at_] at KLV KP ⊢
    have HI := Lib.hid hI
    have hlt := hI.lt
    have HNB : Hid (w.heap.size ≠ b) := by show _ ≠ _; omega
    obtain ⟨w1, hw1⟩ : ∃ q, q = w.alloc (.cells #[.int .i64 k, .int .i64 o, .int .i64 i, .string nm, .bool a, .slice p N c] 24) := ⟨_, rfl⟩
    have hc1 : w1.heap[w.heap.size]? = some (.cells #[.int .i64 k, .int .i64 o, .int .i64 i, .string nm, .bool a, .slice p N c] 24 (0, 0)) := by rw [hw1]; exact (MapKept.heap_alloc w _).1
    have hi1 : PrIn w0 B b l deep w1 := by rw [hw1]; exact hI.box _
    have hk1 : Pk B b w w1 := by rw [hw1]; exact hI.pk _
    have HW1 := Lib.hid hw1
    have HC1 := Lib.hid hc1
    have HI1 := Lib.hid hi1
    have HK1 := Lib.hid hk1
    clear hI hd hv hN hS hTX hLV hw1 hc1 hi1 hk1 hlt ih
    have e0 := cell_of_blkP HC1.out (j := 0) (u := .int .i64 k) rfl
    have e1 := cell_of_blkP HC1.out (j := 1) (u := .int .i64 o) rfl
    have e2 := cell_of_blkP HC1.out (j := 2) (u := .int .i64 i) rfl
    have e3 := cell_of_blkP HC1.out (j := 3) (u := .string nm) rfl
    have e4 := cell_of_blkP HC1.out (j := 4) (u := .bool a) rfl
    have e5 := cell_of_blkP HC1.out (j := 5) (u := .slice p N c) rfl
    go_enter Tryz.func42, Tryz.ntmps42
    go_wp2_with fail
    rw [← HW1.out]
    refine (KLV.out w1 HI1.out.base).mono ?_
    rintro e' w2 ⟨rfl, hw2⟩
    have hi2 : PrIn w0 B b l deep w2 := by rw [hw2]; exact HI1.out.box _
    have hk2 : Pk B b w w2 := by rw [hw2]; exact HK1.out.trans (HI1.out.pk _)
    have hc2 : w2.heap[w.heap.size]? = some (.cells #[.int .i64 k, .int .i64 o, .int .i64 i, .string nm, .bool a, .slice p N c] 24 (0, 0)) := by
      rw [hw2]; exact ((below_box w1 _).block _ (Array.getElem?_eq_some_iff.1 HC1.out).1).trans HC1.out
    have HI2 := Lib.hid hi2
    have HK2 := Lib.hid hk2
    have HC2 := Lib.hid hc2
    clear hw2 hi2 hk2 hc2 e0 e1 e2 e3 e4 e5 HW1
    by_cases hlr : LV < req
    · rw [Sy.par_lt hlr] at hlen
      have HLR := Lib.hid hlr
      have hlr2 : (LV : Int) < (req : Int) := by omega
      have HL := Lib.hid hlen
      have KW := Lib.hid (wr_any HI2.out [⟨#[40]⟩] 1 #[.string ⟨#[40]⟩] [40] rfl rfl (by simp [flatB]) (by have := HL.out; simp only [List.length_append, List.length_cons, List.length_nil] at this ⊢; omega) (by decide))
      clear hlen hlr
      go_wp2_with fail
      refine KW.out.mono ?_
      rintro e' w3 ⟨rfl, hs, hk⟩
      have HI3 := Lib.hid (HI2.out.next hs hk)
      have HK3 := Lib.hid (HK2.out.trans hk)
      have HC3 := Lib.hid (hk.box HC2.out HNB.out (by decide))
      clear hs hk
      have e0 := cell_of_blkP HC3.out (j := 0) (u := .int .i64 k) rfl
      have e1 := cell_of_blkP HC3.out (j := 1) (u := .int .i64 o) rfl
      have e2 := cell_of_blkP HC3.out (j := 2) (u := .int .i64 i) rfl
      have e3 := cell_of_blkP HC3.out (j := 3) (u := .string nm) rfl
      have e4 := cell_of_blkP HC3.out (j := 4) (u := .bool a) rfl
      have e5 := cell_of_blkP HC3.out (j := 5) (u := .slice p N c) rfl
      have KP3 := Lib.hid (KP.out w3 _ HI3.out (by have := HL.out; simp only [List.length_append, List.length_cons, List.length_nil] at this ⊢; omega))
      go_wp2_with fail
      refine KP3.out.mono ?_
      rintro e' w4 ⟨rfl, hs, hk⟩
      have HI4 := Lib.hid (HI3.out.next hs hk)
      have HK4 := Lib.hid (HK3.out.trans hk)
      clear hs hk e0 e1 e2 e3 e4 e5
      have KW4 := Lib.hid (wr_any HI4.out [⟨#[41]⟩] 1 #[.string ⟨#[41]⟩] [41] rfl rfl (by simp [flatB]) (by have := HL.out; simp only [List.length_append, List.length_cons, List.length_nil] at this ⊢; omega) (by decide))
      go_wp2_with fail
      refine KW4.out.mono ?_
      rintro e' w5 ⟨rfl, hs, hk⟩
      have HS5 := Lib.hid hs
      have HK5 := Lib.hid (HK4.out.trans hk)
      clear hs hk
      go_wp2_with fail
      go_end0
      exact ⟨rfl, by have h1 := HS5.out; rw [Sy.par_lt HLR.out]; simp only [List.append_assoc] at h1 ⊢; exact h1, HK5.out⟩
    · rw [Sy.par_ge hlr] at hlen
      have HLR := Lib.hid hlr
      have hlr2 : ¬ (LV : Int) < (req : Int) := by omega
      have KP3 := Lib.hid (KP.out w2 _ HI2.out hlen)
      clear hlen hlr
      have e0 := cell_of_blkP HC2.out (j := 0) (u := .int .i64 k) rfl
      have e1 := cell_of_blkP HC2.out (j := 1) (u := .int .i64 o) rfl
      have e2 := cell_of_blkP HC2.out (j := 2) (u := .int .i64 i) rfl
      have e3 := cell_of_blkP HC2.out (j := 3) (u := .string nm) rfl
      have e4 := cell_of_blkP HC2.out (j := 4) (u := .bool a) rfl
      have e5 := cell_of_blkP HC2.out (j := 5) (u := .slice p N c) rfl
      go_wp2_with fail
      refine KP3.out.mono ?_
      rintro e' w4 ⟨rfl, hs, hk⟩
      have HS4 := Lib.hid hs
      have HK4 := Lib.hid (HK2.out.trans hk)
      clear hs hk e0 e1 e2 e3 e4 e5
      go_wp2_with fail
      go_end0
      exact ⟨rfl, by rw [Sy.par_ge HLR.out]; exact HS4.out, HK4.out⟩

/-- what chapter 38's functions read of the package-level variables -/
structure SyEnv (w : World) : Prop where
  syn : SynEnv w
  pr : PrEnv w
theorem PrEnv.keep {w w' : World} (h : PrEnv w) (hb : Below w.heap.size w w') : PrEnv w' := ⟨fun o ho => ⟨cell_keep' hb (h.ops o ho).1, cell_keep' hb (h.ops o ho).2⟩, tab_keep h.tab hb⟩
theorem SyEnv.keep {w w' : World} (h : SyEnv w) (hb : Below w.heap.size w w') : SyEnv w' := ⟨h.syn.keep hb, h.pr.keep hb⟩

set_option maxRecDepth 100000 in
set_option maxHeartbeats 8000000 in
theorem syExpr_any (e : Tr.E) (a : Value) (w : World) (hE : SyEnv w) (hbd : BdE e) (hS : SlE w a e.args) (hlen : (Sy.text e).length ≤ 140737488355328) :
    Calls Tryz.prog 15 #[exprV e a] w fun r w' => r = .returned (.string ⟨(Sy.exprText e).toArray⟩) ∧ Below w.heap.size w w' := by
  obtain ⟨p, c, rfl, _⟩ := hS.form
  obtain ⟨N, hN⟩ : ∃ q, e.args.length = q := ⟨_, rfl⟩
  rw [hN] at hS ⊢
  have hB := below_box w (.cells #[.int .i64 e.kind, .int .i64 e.op, .int .i64 e.int, .string e.name, .bool e.at_, .slice p N c] 24)
  have hcv := (MapKept.heap_alloc w (.cells #[.int .i64 e.kind, .int .i64 e.op, .int .i64 e.int, .string e.name, .bool e.at_, .slice p N c] 24)).1
  obtain ⟨w1, hw1⟩ : ∃ q, q = w.alloc (.cells #[.int .i64 e.kind, .int .i64 e.op, .int .i64 e.int, .string e.name, .bool e.at_, .slice p N c] 24) := ⟨_, rfl⟩
  rw [← hw1] at hB hcv
  have KV := Lib.hid (validExpr_any _ e (.slice p N c) w1 (Nat.le_refl _) (hE.syn.lex.keep hB) hbd (hS.keep hB))
  have HW1 := Lib.hid hw1
  have HB1 := Lib.hid hB
  have HC1 := Lib.hid hcv
  have HE := Lib.hid hE
  have HS := Lib.hid hS
  have HN := Lib.hid hN
  have HLEN := Lib.hid hlen
  have e0 := cell_of_blkP HC1.out (j := 0) (u := .int .i64 e.kind) rfl
  have e1 := cell_of_blkP HC1.out (j := 1) (u := .int .i64 e.op) rfl
  have e2 := cell_of_blkP HC1.out (j := 2) (u := .int .i64 e.int) rfl
  have e3 := cell_of_blkP HC1.out (j := 3) (u := .string e.name) rfl
  have e4 := cell_of_blkP HC1.out (j := 4) (u := .bool e.at_) rfl
  have e5 := cell_of_blkP HC1.out (j := 5) (u := .slice p N c) rfl
  unfold exprV at KV ⊢
  clear hE hbd hS hlen hN hw1 hB hcv
  cases hv : Tr.validE e
  · rw [hv] at KV
    have HV := Lib.hid hv
    clear hv
    go_enter Tryz.func15, Tryz.ntmps15
    go_wp2_with fail
    rw [← HW1.out]
    refine KV.out.mono ?_
    rintro e' w2 ⟨rfl, hb2⟩
    have HB2 := Lib.hid (below_next HB1.out hb2)
    clear hb2 e0 e1 e2 e3 e4 e5
    go_wp2_with fail
    go_ret
    exact ⟨by unfold Sy.exprText; rw [HV.out]; rfl, HB2.out⟩
  · rw [hv] at KV
    have HV := Lib.hid hv
    clear hv
    go_enter Tryz.func15, Tryz.ntmps15
    go_wp2_with fail
    rw [← HW1.out]
    refine KV.out.mono ?_
    rintro e' w2 ⟨rfl, hb2⟩
    have HB2 := Lib.hid (below_next HB1.out hb2)
    have HC2 := Lib.hid ((hb2.block _ (Array.getElem?_eq_some_iff.1 HC1.out).1).trans HC1.out)
    clear hb2 e0 e1 e2 e3 e4 e5 HW1
    obtain ⟨w3, hw3⟩ : ∃ q, q = w2.alloc (.cells #[.pointer none, .slice none 0 0, .int .i64 0] 68) := ⟨_, rfl⟩
    have hb3 := below_box w2 (.cells #[.pointer none, .slice none 0 0, .int .i64 0] 68)
    have hi3 : PrIn w2 w2.heap.size w2.heap.size [] 0 w3 := by
      rw [hw3]
      exact ⟨.inl ⟨Nat.le_refl _, _, (MapKept.heap_alloc w2 _).1, World.ownsRow_nil _ _ _ _, fun _ => rfl⟩, hb3, Nat.le_refl _, hb3.size⟩
    rw [← hw3] at hb3
    have hc3 := (hb3.block _ (Array.getElem?_eq_some_iff.1 HC2.out).1).trans HC2.out
    have e0 := cell_of_blkP hc3 (j := 0) (u := .int .i64 e.kind) rfl
    have e1 := cell_of_blkP hc3 (j := 1) (u := .int .i64 e.op) rfl
    have e2 := cell_of_blkP hc3 (j := 2) (u := .int .i64 e.int) rfl
    have e3 := cell_of_blkP hc3 (j := 3) (u := .string e.name) rfl
    have e4 := cell_of_blkP hc3 (j := 4) (u := .bool e.at_) rfl
    have e5 := cell_of_blkP hc3 (j := 5) (u := .slice p N c) rfl
    have kx := exprC (HE.out.pr.keep HB2.out) e.deep e p N c w2.heap.size w2.heap.size [] 0 w3 1 (Nat.le_refl _) HV.out HN.out (HS.out.keep HB2.out) hi3 (by rw [Sy.par_one]; simpa using HLEN.out)
    rw [Sy.par_one] at kx
    unfold exprV at kx
    rw [hw3] at e0 e1 e2 e3 e4 e5
    have HW3 := Lib.hid hw3
    have KX := Lib.hid kx
    have HI3 := Lib.hid hi3
    clear hw3 hb3 hi3 hc3 kx
    go_wp2_with fail
    rw [← HW3.out]
    refine KX.out.mono ?_
    rintro e' w4 ⟨rfl, hs4, hk4⟩
    have KS := Lib.hid (prString_any w4 hs4)
    have hbz : Below w.heap.size w w4 := HB2.out.trans ((HI3.out.next hs4 hk4).base.mono HB2.out.size)
    have HBZ := Lib.hid hbz
    have HI4 := Lib.hid (HI3.out.next hs4 hk4)
    have HB24 := Lib.hid HB2.out.size
    clear hs4 hk4 hbz e0 e1 e2 e3 e4 e5 HW3
    go_wp2_with fail
    refine KS.out.mono ?_
    rintro e' w5 ⟨rfl, hb5⟩
    have HB5 := Lib.hid (HBZ.out.trans (hb5.mono HB24.out))
    clear hb5
    go_wp2_with fail
    go_ret
    exact ⟨by unfold Sy.exprText; rw [HV.out]; rfl, HB5.out⟩
end Go.Proofs.YtlgfickhkejdjaaGreatDoor
