/-
  SyntaxSpoiled, walked: a spoiled expression is not valid, nor is a program that prints it.
-/
import Derived.Test.YtlgfickhkejdjaaGreatDoorMSyOne
import Derived.Test.YtlgfickhkejdjaaGreatDoorMSyParen
namespace Go.Proofs.YtlgfickhkejdjaaGreatDoor
open Go.RowKit Go.Maps

theorem SrcAt.lits {α : Type} {f : α → List Value} (w : World) (l : List α) (t : TypeId) (cs : Array Value) (hcs : cs.toList = flatV f l) (n : Nat) (hn : n = l.length) (c : Nat) : SrcAt (w.alloc (.cells cs t)) f (.slice (some ⟨w.heap.size, 0, none⟩) n c) l := by
  subst hn
  refine .inr ⟨w.heap.size, 0, c, rfl, fun j u hj => ?_⟩
  rw [← hcs, Array.getElem?_toList] at hj
  rw [Nat.zero_add]
  exact box_cell w cs t j u hj
def badE : ET := (.mk (-1) 0 0 ⟨#[]⟩ false [], .slice none 0 0)
def zeroE : ET := (.mk 0 0 0 ⟨#[]⟩ false [], .slice none 0 0)
theorem badE_read (w : World) : ReadET w badE := ⟨⟨show Tr.I64 (-1) by decide, show Tr.I64 0 by decide, show Tr.I64 0 by decide, show (⟨#[]⟩ : ByteArray).size ≤ maxLen by decide⟩, .nil _ _⟩
theorem zeroE_read (w : World) : ReadET w zeroE := ⟨⟨show Tr.I64 0 by decide, show Tr.I64 0 by decide, show Tr.I64 0 by decide, show (⟨#[]⟩ : ByteArray).size ≤ maxLen by decide⟩, .nil _ _⟩
theorem ReadET.keep {w w' : World} {x : ET} (h : ReadET w x) (hb : Below w.heap.size w w') : ReadET w' x := ⟨h.1, h.2.keep hb⟩

theorem spoil_0 (e : Tr.E) : Sy.spoil 0 e = .mk (e.kind + 11) e.op e.int e.name e.at_ e.args := by cases e; rfl
theorem spoil_1 (e : Tr.E) : Sy.spoil 1 e = .mk e.kind e.op e.int (e.name ++ ⟨#[46]⟩) e.at_ e.args := by cases e; rfl
theorem spoil_2 (e : Tr.E) : Sy.spoil 2 e = .mk e.kind (if e.kind = 10 then 13 else 1) e.int e.name e.at_ e.args := by cases e; rfl
theorem spoil_3 (e : Tr.E) : Sy.spoil 3 e = .mk e.kind e.op (if e.kind = 0 then -1 else 1) e.name e.at_ e.args := by cases e; rfl
theorem spoil_4 (e : Tr.E) : Sy.spoil 4 e = if e.kind = 5 then .mk e.kind e.op e.int ⟨#[99]⟩ e.at_ e.args else .mk e.kind e.op e.int e.name true e.args := by cases e; rfl
theorem spoil_5 (e : Tr.E) : Sy.spoil 5 e = .mk e.kind e.op e.int e.name e.at_ (e.args ++ if e.kind = 5 then [.mk (-1) 0 0 ⟨#[]⟩ false []] else [.mk 0 0 0 ⟨#[]⟩ false [], .mk 0 0 0 ⟨#[]⟩ false []]) := by cases e; rfl
theorem valid_kind {e : Tr.E} (h : Tr.validE e = true) : 0 ≤ e.kind ∧ e.kind ≤ 10 := by
  obtain ⟨k, o, i, nm, a, l⟩ := e
  rw [Tr.validE, Bool.and_eq_true] at h
  have := okE_forms h.2
  show 0 ≤ k ∧ k ≤ 10
  omega
theorem few_name {e : Tr.E} (h : Tr.fewE e 60 = true) : e.name.size ≤ 40 := by
  obtain ⟨k, o, i, nm, a, l⟩ := e
  have h1 : 0 ≤ Tr.leftE (.mk k o i nm a l) 60 := of_decide_eq_true h
  rw [Tr.leftE] at h1
  show nm.size ≤ 40
  by_cases h4 : 40 < nm.size
  · rw [if_pos h4] at h1; omega
  · omega
theorem few_args {e : Tr.E} (h : Tr.fewE e 60 = true) (hi : Sy.i64E e) : e.args.length ≤ 1000 := by
  obtain ⟨k, o, i, nm, a, l⟩ := e
  have h1 := (Sy.expr_small h (by decide) (by decide) hi).2.1
  rw [Sy.sizeE] at h1
  have key : ∀ m : List Tr.E, m.length ≤ Sy.sizeEs m := by
    intro m
    induction m with
    | nil => exact Nat.zero_le _
    | cons y r ih =>
      rw [Sy.sizeEs, List.length_cons]
      have : 0 < Sy.sizeE y := by (cases y; rw [Sy.sizeE]; omega)
      omega
  have := key l
  show l.length ≤ 1000
  omega

set_option maxRecDepth 100000 in
set_option maxHeartbeats 20000000 in
theorem law_spoiled (e0 : Tr.E) (a0 : Value) (how : Nat) (hhow : how ≤ 255) (w : World) (hE : SyEnv w) (h0 : BdE e0 ∧ SlE w a0 e0.args) :
    Calls Tryz.prog 8 #[exprV e0 a0, .int .u8 how] w fun r w' => r = .returned (.bool true) ∧ Below w.heap.size w w' := by
  obtain ⟨i0, hinf, hz0, hz1, hz2⟩ := info_parts exprInfo
  obtain ⟨hbd0, h0⟩ := h0
  have hi0 : Sy.i64E e0 := (Sy.i64E_eq e0).2 ⟨hbd0.int, h0.i64⟩
  obtain ⟨p0, c0, rfl, _⟩ := h0.form
  obtain ⟨N0, hN0⟩ : ∃ q, e0.args.length = q := ⟨_, rfl⟩
  rw [hN0] at h0 ⊢
  have hbc := box1_of w #[.int .i64 e0.kind, .int .i64 e0.op, .int .i64 e0.int, .string e0.name, .bool e0.at_, .slice p0 N0 c0] 24
  obtain ⟨w1, hw1⟩ : ∃ q, q = w.alloc (.cells #[.int .i64 e0.kind, .int .i64 e0.op, .int .i64 e0.int, .string e0.name, .bool e0.at_, .slice p0 N0 c0] 24) := ⟨_, rfl⟩
  rw [← hw1] at hbc
  obtain ⟨hb1, hc1⟩ := hbc
  have HW1 := Lib.hid hw1
  have HB1 := Lib.hid hb1
  have HC := Lib.hid hc1
  have hez := hE.keep hb1
  have hs0 := h0.keep hb1
  have hblk : w1.heap[w.heap.size]? = some (.cells #[.int .i64 e0.kind, .int .i64 e0.op, .int .i64 e0.int, .string e0.name, .bool e0.at_, .slice p0 N0 c0] 24 (0, 0)) := by rw [hw1]; exact (MapKept.heap_alloc w _).1
  have HBLK := Lib.hid hblk
  have KA : Hid (∀ W, Below w1.heap.size w1 W → Calls Tryz.prog 11 #[] W fun r w' => r = .returned (.bool true) ∧ Below W.heap.size W w') := fun W hb => awake38_any W (hez.keep hb)
  have KF0 : Hid (∀ W, Below w1.heap.size w1 W → Calls Tryz.prog 12 #[.agg #[.int .i64 e0.kind, .int .i64 e0.op, .int .i64 e0.int, .string e0.name, .bool e0.at_, .slice p0 N0 c0], .int .i64 60] W fun r w' => r = .returned (.bool (Tr.fewE e0 60)) ∧ Below W.heap.size W w') := fun W hb => fewExpr_any e0 _ 60 W hbd0 (hs0.keep hb) (by decide) (by decide)
  have KV0 : Hid (∀ W, Below w1.heap.size w1 W → Calls Tryz.prog 13 #[.agg #[.int .i64 e0.kind, .int .i64 e0.op, .int .i64 e0.int, .string e0.name, .bool e0.at_, .slice p0 N0 c0]] W fun r w' => r = .returned (.bool (Tr.validE e0)) ∧ Below W.heap.size W w') := fun W hb => validExpr_any _ e0 _ W (Nat.le_refl _) (hez.syn.lex.keep hb) hbd0 (hs0.keep hb)
  obtain ⟨rows, hrows, hread, hsrc⟩ := h0.rows
  have HRN := Lib.hid (show rows.length = N0 by rw [← hN0, ← hrows, List.length_map])
  have HROWS := Lib.hid hrows
  have HREAD := Lib.hid hread
  have HSRC := Lib.hid hsrc
  clear hrows hread hsrc
  have HEW := Lib.hid hE
  have HSW := Lib.hid h0
  have HN0 := Lib.hid hN0
  clear hE h0 hN0 hw1 hb1 hc1 hez hs0 hblk
  unfold exprV
  cases hq0 : Tr.fewE e0 60
  · rw [hq0] at KF0
    clear hq0
    go_enter Tryz.func8, Tryz.ntmps8
    go_upto_region 1 with fail
    rw [← HW1.out]
    have HR := Lib.hid (Below.refl w1.heap.size w1)
    go_wp2_with fail
    refine (KA.out _ HR.out).mono ?_
    rintro r wy ⟨rfl, hby⟩
    have HR := Lib.hid (below_next HR.out hby)
    clear hby
    have d0_0 := ((HC.out _ HR.out) 0 _ rfl)
    have d0_1 := ((HC.out _ HR.out) 1 _ rfl)
    have d0_2 := ((HC.out _ HR.out) 2 _ rfl)
    have d0_3 := ((HC.out _ HR.out) 3 _ rfl)
    have d0_4 := ((HC.out _ HR.out) 4 _ rfl)
    have d0_5 := ((HC.out _ HR.out) 5 _ rfl)
    go_wp2_with fail
    refine (KF0.out _ HR.out).mono ?_
    rintro r wy ⟨rfl, hby⟩
    have HR := Lib.hid (below_next HR.out hby)
    clear hby d0_0 d0_1 d0_2 d0_3 d0_4 d0_5
    go_wp2_with fail
    go_ret
    exact ⟨rfl, below_next HB1.out HR.out⟩
  · have HSP := Lib.hid (Sy.spoil_small hq0 hi0)
    have hnm := few_name hq0
    have hal := few_args hq0 hi0
    rw [HN0.out] at hal
    rw [hq0] at KF0
    clear hq0 hi0
    cases hv0 : Tr.validE e0
    · rw [hv0] at KV0
      clear hv0
      go_enter Tryz.func8, Tryz.ntmps8
      go_upto_region 1 with fail
      rw [← HW1.out]
      have HR := Lib.hid (Below.refl w1.heap.size w1)
      go_wp2_with fail
      refine (KA.out _ HR.out).mono ?_
      rintro r wy ⟨rfl, hby⟩
      have HR := Lib.hid (below_next HR.out hby)
      clear hby
      have d0_0 := ((HC.out _ HR.out) 0 _ rfl)
      have d0_1 := ((HC.out _ HR.out) 1 _ rfl)
      have d0_2 := ((HC.out _ HR.out) 2 _ rfl)
      have d0_3 := ((HC.out _ HR.out) 3 _ rfl)
      have d0_4 := ((HC.out _ HR.out) 4 _ rfl)
      have d0_5 := ((HC.out _ HR.out) 5 _ rfl)
      go_wp2_with fail
      refine (KF0.out _ HR.out).mono ?_
      rintro r wy ⟨rfl, hby⟩
      have HR := Lib.hid (below_next HR.out hby)
      clear hby d0_0 d0_1 d0_2 d0_3 d0_4 d0_5
      have d0_0 := ((HC.out _ HR.out) 0 _ rfl)
      have d0_1 := ((HC.out _ HR.out) 1 _ rfl)
      have d0_2 := ((HC.out _ HR.out) 2 _ rfl)
      have d0_3 := ((HC.out _ HR.out) 3 _ rfl)
      have d0_4 := ((HC.out _ HR.out) 4 _ rfl)
      have d0_5 := ((HC.out _ HR.out) 5 _ rfl)
      go_wp2_with fail
      refine (KV0.out _ HR.out).mono ?_
      rintro r wy ⟨rfl, hby⟩
      have HR := Lib.hid (below_next HR.out hby)
      clear hby d0_0 d0_1 d0_2 d0_3 d0_4 d0_5
      go_wp2_with fail
      go_ret
      exact ⟨rfl, below_next HB1.out HR.out⟩
    · have HBAD := Lib.hid (fun r => Sy.spoil_bad r e0 hv0)
      obtain ⟨hk0, hk1⟩ := valid_kind hv0
      rw [hv0] at KV0
      clear hv0
      have hr : how % 6 = 0 ∨ how % 6 = 1 ∨ how % 6 = 2 ∨ how % 6 = 3 ∨ how % 6 = 4 ∨ how % 6 = 5 := by omega
      rcases hr with hr | hr | hr | hr | hr | hr
      · go_enter Tryz.func8, Tryz.ntmps8
        go_upto_region 1 with fail
        rw [← HW1.out]
        have HR := Lib.hid (Below.refl w1.heap.size w1)
        go_wp2_with fail
        refine (KA.out _ HR.out).mono ?_
        rintro r wy ⟨rfl, hby⟩
        have HR := Lib.hid (below_next HR.out hby)
        clear hby
        have d0_0 := ((HC.out _ HR.out) 0 _ rfl)
        have d0_1 := ((HC.out _ HR.out) 1 _ rfl)
        have d0_2 := ((HC.out _ HR.out) 2 _ rfl)
        have d0_3 := ((HC.out _ HR.out) 3 _ rfl)
        have d0_4 := ((HC.out _ HR.out) 4 _ rfl)
        have d0_5 := ((HC.out _ HR.out) 5 _ rfl)
        go_wp2_with fail
        refine (KF0.out _ HR.out).mono ?_
        rintro r wy ⟨rfl, hby⟩
        have HR := Lib.hid (below_next HR.out hby)
        clear hby d0_0 d0_1 d0_2 d0_3 d0_4 d0_5
        have d0_0 := ((HC.out _ HR.out) 0 _ rfl)
        have d0_1 := ((HC.out _ HR.out) 1 _ rfl)
        have d0_2 := ((HC.out _ HR.out) 2 _ rfl)
        have d0_3 := ((HC.out _ HR.out) 3 _ rfl)
        have d0_4 := ((HC.out _ HR.out) 4 _ rfl)
        have d0_5 := ((HC.out _ HR.out) 5 _ rfl)
        go_wp2_with fail
        refine (KV0.out _ HR.out).mono ?_
        rintro r wy ⟨rfl, hby⟩
        have HR := Lib.hid (below_next HR.out hby)
        clear hby d0_0 d0_1 d0_2 d0_3 d0_4 d0_5
        have HW := Lib.hid (below_next HB1.out HR.out)
        have hblk := (HR.out.block w.heap.size (lt_of_block HBLK.out)).trans HBLK.out
        have hf0 := blk_free hblk 0
        have hf1 := blk_free hblk 1
        have hf2 := blk_free hblk 2
        have hf3 := blk_free hblk 3
        have hf4 := blk_free hblk 4
        have hf5 := blk_free hblk 5
        have d0_0 := ((HC.out _ HR.out) 0 _ rfl)
        have d0_1 := ((HC.out _ HR.out) 1 _ rfl)
        have d0_2 := ((HC.out _ HR.out) 2 _ rfl)
        have d0_3 := ((HC.out _ HR.out) 3 _ rfl)
        have d0_4 := ((HC.out _ HR.out) 4 _ rfl)
        have d0_5 := ((HC.out _ HR.out) 5 _ rfl)
        go_upto_region 26 with fail
        clear d0_0 d0_1 d0_2 d0_3 d0_4 d0_5 hf0 hf1 hf2 hf3 hf4 hf5
        have HB2 := Lib.hid (HW.out.grown (grown_setCell wy w.heap.size 0 (.int .i64 (e0.kind + 11))) HW.out.size (fun k hk => by cases hk; exact Nat.le_refl _))
        have hblk2 := heap_set (j := 0) (.int .i64 (e0.kind + 11)) hblk
        obtain ⟨w2, hw2⟩ : ∃ q, q = wy.setCell ⟨w.heap.size, 0, none⟩ (.int .i64 (e0.kind + 11)) := ⟨_, rfl⟩
        rw [← hw2] at HB2 hblk2 ⊢
        have hblk2 : w2.heap[w.heap.size]? = some (.cells #[.int .i64 (e0.kind + 11), .int .i64 (e0.op), .int .i64 (e0.int), .string (e0.name), .bool (e0.at_), .slice p0 N0 c0] 24 (0, 0)) := hblk2
        clear hblk hw2
        have hbad : Tr.validE (Tr.E.mk (e0.kind + 11) (e0.op) (e0.int) (e0.name) (e0.at_) e0.args) = false := by have h := HBAD.out 0; rw [spoil_0] at h; exact h
        have hlen : (Sy.text (Tr.E.mk (e0.kind + 11) (e0.op) (e0.int) (e0.name) (e0.at_) e0.args)).length ≤ 20000 := by have h := HSP.out 0; rw [spoil_0] at h; exact h
        have hbd : BdE (Tr.E.mk (e0.kind + 11) (e0.op) (e0.int) (e0.name) (e0.at_) e0.args) := ⟨(show Tr.I64 (e0.kind + 11) from ⟨by omega, by omega⟩), hbd0.op, hbd0.int, hbd0.name⟩
        have hsl : SlE w2 (.slice p0 N0 c0) (Tr.E.mk (e0.kind + 11) (e0.op) (e0.int) (e0.name) (e0.at_) e0.args).args := HSW.out.keep HB2.out
        have HX := Lib.hid hbad
        have HLN := Lib.hid hlen
        have HBD := Lib.hid hbd
        have HSL := Lib.hid hsl
        have b0 := cell_of_blkP hblk2 (j := 0) (u := .int .i64 (e0.kind + 11)) rfl
        have b1 := cell_of_blkP hblk2 (j := 1) (u := .int .i64 (e0.op)) rfl
        have b2 := cell_of_blkP hblk2 (j := 2) (u := .int .i64 (e0.int)) rfl
        have b3 := cell_of_blkP hblk2 (j := 3) (u := .string (e0.name)) rfl
        have b4 := cell_of_blkP hblk2 (j := 4) (u := .bool (e0.at_)) rfl
        have b5 := cell_of_blkP hblk2 (j := 5) (u := .slice p0 N0 c0) rfl
        clear hbad hlen hbd hsl
        go_upto_region 27 with fail
        clear b0 b1 b2 b3 b4 b5
        have hpb := prW_below w2 w2.heap.size #[.int .i64 (e0.kind + 11), .int .i64 (e0.op), .int .i64 (e0.int), .string (e0.name), .bool (e0.at_), .slice p0 N0 c0]
        have hpl := (prW_blk w2 #[.int .i64 (e0.kind + 11), .int .i64 (e0.op), .int .i64 (e0.int), .string (e0.name), .bool (e0.at_), .slice p0 N0 c0]).2.2.2.2
        have hpp := prW_prog w2 (e := Tr.E.mk (e0.kind + 11) (e0.op) (e0.int) (e0.name) (e0.at_) e0.args) HBD.out HSL.out
        obtain ⟨w3, hw3⟩ : ∃ q, q = prW w2 w2.heap.size #[.int .i64 (e0.kind + 11), .int .i64 (e0.op), .int .i64 (e0.int), .string (e0.name), .bool (e0.at_), .slice p0 N0 c0] := ⟨_, rfl⟩
        obtain ⟨GN, hGN⟩ : ∃ q, w2.heap.size = q := ⟨_, rfl⟩
        have hpp : SlC w3 (.slice (some ⟨w2.heap.size + 1 + 1 + 1, 0, none⟩) 1 1) (Sy.printP (Tr.E.mk (e0.kind + 11) (e0.op) (e0.int) (e0.name) (e0.at_) e0.args)) := by rw [hw3]; exact hpp
        rw [← hw3] at hpb hpl
        have hw4 := hw3
        unfold prW at hw4
        rw [← hw4]
        have hblk3 := (hpb.block w.heap.size (lt_of_block hblk2)).trans hblk2
        rw [hGN] at hpl hpp ⊢
        have HB3 := Lib.hid (below_next HB2.out hpb)
        have HBW3 := Lib.hid hpb
        have HPP := Lib.hid hpp
        have hez : SyEnv w3 := HEW.out.keep HB3.out
        have hs3 := HSL.out.keep hpb
        have K1 : Hid (∀ W, Below w3.heap.size w3 W → Calls Tryz.prog 13 #[.agg #[.int .i64 (e0.kind + 11), .int .i64 (e0.op), .int .i64 (e0.int), .string (e0.name), .bool (e0.at_), .slice p0 N0 c0]] W fun r w' => r = .returned (.bool false) ∧ Below W.heap.size W w') := fun W hb => by
          have h := validExpr_any _ (Tr.E.mk (e0.kind + 11) (e0.op) (e0.int) (e0.name) (e0.at_) e0.args) (.slice p0 N0 c0) W (Nat.le_refl _) (hez.syn.lex.keep hb) HBD.out (hs3.keep hb)
          rw [HX.out] at h
          exact h
        have K2 : Hid (∀ W, Below w3.heap.size w3 W → Calls Tryz.prog 15 #[.agg #[.int .i64 (e0.kind + 11), .int .i64 (e0.op), .int .i64 (e0.int), .string (e0.name), .bool (e0.at_), .slice p0 N0 c0]] W fun r w' => r = .returned (.string ⟨#[]⟩) ∧ Below W.heap.size W w') := fun W hb => by
          have h := syExpr_any (Tr.E.mk (e0.kind + 11) (e0.op) (e0.int) (e0.name) (e0.at_) e0.args) (.slice p0 N0 c0) W (hez.keep hb) HBD.out (hs3.keep hb) (Nat.le_trans HLN.out (by decide))
          rw [show Sy.exprText _ = [] by unfold Sy.exprText; rw [HX.out]; rfl] at h
          exact h
        have K3 : Hid (∀ W, Below w3.heap.size w3 W → Calls Tryz.prog 20 #[.agg #[.slice (some ⟨GN + 1 + 1 + 1, 0, none⟩) 1 1]] W fun r w' => r = .returned (.bool false) ∧ Below W.heap.size W w') := fun W hb => by
          have h := valid_any _ (Sy.printP (Tr.E.mk (e0.kind + 11) (e0.op) (e0.int) (e0.name) (e0.at_) e0.args)) W (hez.syn.keep hb) (Sy.printP_fit _) (HPP.out.keep hb)
          rw [Sy.printP_bad HX.out] at h
          exact h
        have K4 : Hid (∀ W, Below w3.heap.size w3 W → Calls Tryz.prog 22 #[.agg #[.slice (some ⟨GN + 1 + 1 + 1, 0, none⟩) 1 1]] W fun r w' => r = .returned (.string ⟨#[]⟩) ∧ Below W.heap.size W w') := fun W hb => by
          have h := program_any _ (Sy.printP (Tr.E.mk (e0.kind + 11) (e0.op) (e0.int) (e0.name) (e0.at_) e0.args)) W (hez.keep hb) (Sy.printP_fit _) (HPP.out.keep hb) (Sy.printP_deep _) (by rw [Sy.printP_len]; have := HLN.out; omega)
          rw [show Sy.programText _ = [] by unfold Sy.programText; rw [Sy.printP_bad HX.out]; rfl] at h
          exact h
        have HBL3 : Hid (∀ W, Below w3.heap.size w3 W → W.heap[w.heap.size]? = some (.cells #[.int .i64 (e0.kind + 11), .int .i64 (e0.op), .int .i64 (e0.int), .string (e0.name), .bool (e0.at_), .slice p0 N0 c0] 24 (0, 0))) := fun W hb => (hb.block _ (lt_of_block hblk3)).trans hblk3
        have HPL3 : Hid (∀ W, Below w3.heap.size w3 W → W.heap[GN + 1 + 1 + 1 + 1]? = some (.cells #[.slice (some ⟨GN + 1 + 1 + 1, 0, none⟩) 1 1] 32 (0, 0))) := fun W hb => (hb.block _ (lt_of_block hpl)).trans hpl
        clear hpb hpl hpp hw3 hw4 hblk3 hez hs3 hGN hblk2
        have HR := Lib.hid (Below.refl w3.heap.size w3)
        have b0 := cell_of_blkP (HBL3.out _ HR.out) (j := 0) (u := .int .i64 (e0.kind + 11)) rfl
        have b1 := cell_of_blkP (HBL3.out _ HR.out) (j := 1) (u := .int .i64 (e0.op)) rfl
        have b2 := cell_of_blkP (HBL3.out _ HR.out) (j := 2) (u := .int .i64 (e0.int)) rfl
        have b3 := cell_of_blkP (HBL3.out _ HR.out) (j := 3) (u := .string (e0.name)) rfl
        have b4 := cell_of_blkP (HBL3.out _ HR.out) (j := 4) (u := .bool (e0.at_)) rfl
        have b5 := cell_of_blkP (HBL3.out _ HR.out) (j := 5) (u := .slice p0 N0 c0) rfl
        go_wp2_with fail
        refine (K1.out _ HR.out).mono ?_
        rintro r wz ⟨rfl, hbz⟩
        have HR := Lib.hid (below_next HR.out hbz)
        clear hbz b0 b1 b2 b3 b4 b5
        have b0 := cell_of_blkP (HBL3.out _ HR.out) (j := 0) (u := .int .i64 (e0.kind + 11)) rfl
        have b1 := cell_of_blkP (HBL3.out _ HR.out) (j := 1) (u := .int .i64 (e0.op)) rfl
        have b2 := cell_of_blkP (HBL3.out _ HR.out) (j := 2) (u := .int .i64 (e0.int)) rfl
        have b3 := cell_of_blkP (HBL3.out _ HR.out) (j := 3) (u := .string (e0.name)) rfl
        have b4 := cell_of_blkP (HBL3.out _ HR.out) (j := 4) (u := .bool (e0.at_)) rfl
        have b5 := cell_of_blkP (HBL3.out _ HR.out) (j := 5) (u := .slice p0 N0 c0) rfl
        go_wp2_with fail
        refine (K2.out _ HR.out).mono ?_
        rintro r wz ⟨rfl, hbz⟩
        have HR := Lib.hid (below_next HR.out hbz)
        clear hbz b0 b1 b2 b3 b4 b5
        have b0 := cell_of_blkP (HPL3.out _ HR.out) (j := 0) (u := .slice (some ⟨GN + 1 + 1 + 1, 0, none⟩) 1 1) rfl
        go_wp2_with fail
        refine (K3.out _ HR.out).mono ?_
        rintro r wz ⟨rfl, hbz⟩
        have HR := Lib.hid (below_next HR.out hbz)
        clear hbz b0
        have b0 := cell_of_blkP (HPL3.out _ HR.out) (j := 0) (u := .slice (some ⟨GN + 1 + 1 + 1, 0, none⟩) 1 1) rfl
        go_wp2_with fail
        refine (K4.out _ HR.out).mono ?_
        rintro r wz ⟨rfl, hbz⟩
        have HR := Lib.hid (below_next HR.out hbz)
        clear hbz b0
        go_wp2_with fail
        go_ret
        exact ⟨rfl, below_next HB3.out HR.out⟩
      · obtain ⟨NM, hNM⟩ : ∃ q, e0.name ++ ⟨#[46]⟩ = q := ⟨_, rfl⟩
        have hNS : NM.size ≤ maxLen := by
          rw [← hNM, ByteArray.size_append]
          show e0.name.size + 1 ≤ maxLen
          unfold maxLen
          omega
        have HNM := Lib.hid hNM
        have HNS := Lib.hid hNS
        clear hNM hNS
        go_enter Tryz.func8, Tryz.ntmps8
        go_upto_region 1 with fail
        rw [← HW1.out]
        have HR := Lib.hid (Below.refl w1.heap.size w1)
        go_wp2_with fail
        refine (KA.out _ HR.out).mono ?_
        rintro r wy ⟨rfl, hby⟩
        have HR := Lib.hid (below_next HR.out hby)
        clear hby
        have d0_0 := ((HC.out _ HR.out) 0 _ rfl)
        have d0_1 := ((HC.out _ HR.out) 1 _ rfl)
        have d0_2 := ((HC.out _ HR.out) 2 _ rfl)
        have d0_3 := ((HC.out _ HR.out) 3 _ rfl)
        have d0_4 := ((HC.out _ HR.out) 4 _ rfl)
        have d0_5 := ((HC.out _ HR.out) 5 _ rfl)
        go_wp2_with fail
        refine (KF0.out _ HR.out).mono ?_
        rintro r wy ⟨rfl, hby⟩
        have HR := Lib.hid (below_next HR.out hby)
        clear hby d0_0 d0_1 d0_2 d0_3 d0_4 d0_5
        have d0_0 := ((HC.out _ HR.out) 0 _ rfl)
        have d0_1 := ((HC.out _ HR.out) 1 _ rfl)
        have d0_2 := ((HC.out _ HR.out) 2 _ rfl)
        have d0_3 := ((HC.out _ HR.out) 3 _ rfl)
        have d0_4 := ((HC.out _ HR.out) 4 _ rfl)
        have d0_5 := ((HC.out _ HR.out) 5 _ rfl)
        go_wp2_with fail
        refine (KV0.out _ HR.out).mono ?_
        rintro r wy ⟨rfl, hby⟩
        have HR := Lib.hid (below_next HR.out hby)
        clear hby d0_0 d0_1 d0_2 d0_3 d0_4 d0_5
        have HW := Lib.hid (below_next HB1.out HR.out)
        have hblk := (HR.out.block w.heap.size (lt_of_block HBLK.out)).trans HBLK.out
        have hf0 := blk_free hblk 0
        have hf1 := blk_free hblk 1
        have hf2 := blk_free hblk 2
        have hf3 := blk_free hblk 3
        have hf4 := blk_free hblk 4
        have hf5 := blk_free hblk 5
        have d0_0 := ((HC.out _ HR.out) 0 _ rfl)
        have d0_1 := ((HC.out _ HR.out) 1 _ rfl)
        have d0_2 := ((HC.out _ HR.out) 2 _ rfl)
        have d0_3 := ((HC.out _ HR.out) 3 _ rfl)
        have d0_4 := ((HC.out _ HR.out) 4 _ rfl)
        have d0_5 := ((HC.out _ HR.out) 5 _ rfl)
        have k1 : ¬ 9223372036854775807 < e0.name.size + 1 := by omega
        go_upto_region 26 with fail
        rw [HNM.out]
        clear k1
        clear d0_0 d0_1 d0_2 d0_3 d0_4 d0_5 hf0 hf1 hf2 hf3 hf4 hf5
        have HB2 := Lib.hid (HW.out.grown (grown_setCell wy w.heap.size 3 (.string NM)) HW.out.size (fun k hk => by cases hk; exact Nat.le_refl _))
        have hblk2 := heap_set (j := 3) (.string NM) hblk
        obtain ⟨w2, hw2⟩ : ∃ q, q = wy.setCell ⟨w.heap.size, 3, none⟩ (.string NM) := ⟨_, rfl⟩
        rw [← hw2] at HB2 hblk2 ⊢
        have hblk2 : w2.heap[w.heap.size]? = some (.cells #[.int .i64 (e0.kind), .int .i64 (e0.op), .int .i64 (e0.int), .string (NM), .bool (e0.at_), .slice p0 N0 c0] 24 (0, 0)) := hblk2
        clear hblk hw2
        have hbad : Tr.validE (Tr.E.mk (e0.kind) (e0.op) (e0.int) (NM) (e0.at_) e0.args) = false := by have h := HBAD.out 1; rw [spoil_1, HNM.out] at h; exact h
        have hlen : (Sy.text (Tr.E.mk (e0.kind) (e0.op) (e0.int) (NM) (e0.at_) e0.args)).length ≤ 20000 := by have h := HSP.out 1; rw [spoil_1, HNM.out] at h; exact h
        have hbd : BdE (Tr.E.mk (e0.kind) (e0.op) (e0.int) (NM) (e0.at_) e0.args) := ⟨hbd0.kind, hbd0.op, hbd0.int, HNS.out⟩
        have hsl : SlE w2 (.slice p0 N0 c0) (Tr.E.mk (e0.kind) (e0.op) (e0.int) (NM) (e0.at_) e0.args).args := HSW.out.keep HB2.out
        have HX := Lib.hid hbad
        have HLN := Lib.hid hlen
        have HBD := Lib.hid hbd
        have HSL := Lib.hid hsl
        have b0 := cell_of_blkP hblk2 (j := 0) (u := .int .i64 (e0.kind)) rfl
        have b1 := cell_of_blkP hblk2 (j := 1) (u := .int .i64 (e0.op)) rfl
        have b2 := cell_of_blkP hblk2 (j := 2) (u := .int .i64 (e0.int)) rfl
        have b3 := cell_of_blkP hblk2 (j := 3) (u := .string (NM)) rfl
        have b4 := cell_of_blkP hblk2 (j := 4) (u := .bool (e0.at_)) rfl
        have b5 := cell_of_blkP hblk2 (j := 5) (u := .slice p0 N0 c0) rfl
        clear hbad hlen hbd hsl
        go_upto_region 27 with fail
        clear b0 b1 b2 b3 b4 b5
        have hpb := prW_below w2 w2.heap.size #[.int .i64 (e0.kind), .int .i64 (e0.op), .int .i64 (e0.int), .string (NM), .bool (e0.at_), .slice p0 N0 c0]
        have hpl := (prW_blk w2 #[.int .i64 (e0.kind), .int .i64 (e0.op), .int .i64 (e0.int), .string (NM), .bool (e0.at_), .slice p0 N0 c0]).2.2.2.2
        have hpp := prW_prog w2 (e := Tr.E.mk (e0.kind) (e0.op) (e0.int) (NM) (e0.at_) e0.args) HBD.out HSL.out
        obtain ⟨w3, hw3⟩ : ∃ q, q = prW w2 w2.heap.size #[.int .i64 (e0.kind), .int .i64 (e0.op), .int .i64 (e0.int), .string (NM), .bool (e0.at_), .slice p0 N0 c0] := ⟨_, rfl⟩
        obtain ⟨GN, hGN⟩ : ∃ q, w2.heap.size = q := ⟨_, rfl⟩
        have hpp : SlC w3 (.slice (some ⟨w2.heap.size + 1 + 1 + 1, 0, none⟩) 1 1) (Sy.printP (Tr.E.mk (e0.kind) (e0.op) (e0.int) (NM) (e0.at_) e0.args)) := by rw [hw3]; exact hpp
        rw [← hw3] at hpb hpl
        have hw4 := hw3
        unfold prW at hw4
        rw [← hw4]
        have hblk3 := (hpb.block w.heap.size (lt_of_block hblk2)).trans hblk2
        rw [hGN] at hpl hpp ⊢
        have HB3 := Lib.hid (below_next HB2.out hpb)
        have HBW3 := Lib.hid hpb
        have HPP := Lib.hid hpp
        have hez : SyEnv w3 := HEW.out.keep HB3.out
        have hs3 := HSL.out.keep hpb
        have K1 : Hid (∀ W, Below w3.heap.size w3 W → Calls Tryz.prog 13 #[.agg #[.int .i64 (e0.kind), .int .i64 (e0.op), .int .i64 (e0.int), .string (NM), .bool (e0.at_), .slice p0 N0 c0]] W fun r w' => r = .returned (.bool false) ∧ Below W.heap.size W w') := fun W hb => by
          have h := validExpr_any _ (Tr.E.mk (e0.kind) (e0.op) (e0.int) (NM) (e0.at_) e0.args) (.slice p0 N0 c0) W (Nat.le_refl _) (hez.syn.lex.keep hb) HBD.out (hs3.keep hb)
          rw [HX.out] at h
          exact h
        have K2 : Hid (∀ W, Below w3.heap.size w3 W → Calls Tryz.prog 15 #[.agg #[.int .i64 (e0.kind), .int .i64 (e0.op), .int .i64 (e0.int), .string (NM), .bool (e0.at_), .slice p0 N0 c0]] W fun r w' => r = .returned (.string ⟨#[]⟩) ∧ Below W.heap.size W w') := fun W hb => by
          have h := syExpr_any (Tr.E.mk (e0.kind) (e0.op) (e0.int) (NM) (e0.at_) e0.args) (.slice p0 N0 c0) W (hez.keep hb) HBD.out (hs3.keep hb) (Nat.le_trans HLN.out (by decide))
          rw [show Sy.exprText _ = [] by unfold Sy.exprText; rw [HX.out]; rfl] at h
          exact h
        have K3 : Hid (∀ W, Below w3.heap.size w3 W → Calls Tryz.prog 20 #[.agg #[.slice (some ⟨GN + 1 + 1 + 1, 0, none⟩) 1 1]] W fun r w' => r = .returned (.bool false) ∧ Below W.heap.size W w') := fun W hb => by
          have h := valid_any _ (Sy.printP (Tr.E.mk (e0.kind) (e0.op) (e0.int) (NM) (e0.at_) e0.args)) W (hez.syn.keep hb) (Sy.printP_fit _) (HPP.out.keep hb)
          rw [Sy.printP_bad HX.out] at h
          exact h
        have K4 : Hid (∀ W, Below w3.heap.size w3 W → Calls Tryz.prog 22 #[.agg #[.slice (some ⟨GN + 1 + 1 + 1, 0, none⟩) 1 1]] W fun r w' => r = .returned (.string ⟨#[]⟩) ∧ Below W.heap.size W w') := fun W hb => by
          have h := program_any _ (Sy.printP (Tr.E.mk (e0.kind) (e0.op) (e0.int) (NM) (e0.at_) e0.args)) W (hez.keep hb) (Sy.printP_fit _) (HPP.out.keep hb) (Sy.printP_deep _) (by rw [Sy.printP_len]; have := HLN.out; omega)
          rw [show Sy.programText _ = [] by unfold Sy.programText; rw [Sy.printP_bad HX.out]; rfl] at h
          exact h
        have HBL3 : Hid (∀ W, Below w3.heap.size w3 W → W.heap[w.heap.size]? = some (.cells #[.int .i64 (e0.kind), .int .i64 (e0.op), .int .i64 (e0.int), .string (NM), .bool (e0.at_), .slice p0 N0 c0] 24 (0, 0))) := fun W hb => (hb.block _ (lt_of_block hblk3)).trans hblk3
        have HPL3 : Hid (∀ W, Below w3.heap.size w3 W → W.heap[GN + 1 + 1 + 1 + 1]? = some (.cells #[.slice (some ⟨GN + 1 + 1 + 1, 0, none⟩) 1 1] 32 (0, 0))) := fun W hb => (hb.block _ (lt_of_block hpl)).trans hpl
        clear hpb hpl hpp hw3 hw4 hblk3 hez hs3 hGN hblk2
        have HR := Lib.hid (Below.refl w3.heap.size w3)
        have b0 := cell_of_blkP (HBL3.out _ HR.out) (j := 0) (u := .int .i64 (e0.kind)) rfl
        have b1 := cell_of_blkP (HBL3.out _ HR.out) (j := 1) (u := .int .i64 (e0.op)) rfl
        have b2 := cell_of_blkP (HBL3.out _ HR.out) (j := 2) (u := .int .i64 (e0.int)) rfl
        have b3 := cell_of_blkP (HBL3.out _ HR.out) (j := 3) (u := .string (NM)) rfl
        have b4 := cell_of_blkP (HBL3.out _ HR.out) (j := 4) (u := .bool (e0.at_)) rfl
        have b5 := cell_of_blkP (HBL3.out _ HR.out) (j := 5) (u := .slice p0 N0 c0) rfl
        go_wp2_with fail
        refine (K1.out _ HR.out).mono ?_
        rintro r wz ⟨rfl, hbz⟩
        have HR := Lib.hid (below_next HR.out hbz)
        clear hbz b0 b1 b2 b3 b4 b5
        have b0 := cell_of_blkP (HBL3.out _ HR.out) (j := 0) (u := .int .i64 (e0.kind)) rfl
        have b1 := cell_of_blkP (HBL3.out _ HR.out) (j := 1) (u := .int .i64 (e0.op)) rfl
        have b2 := cell_of_blkP (HBL3.out _ HR.out) (j := 2) (u := .int .i64 (e0.int)) rfl
        have b3 := cell_of_blkP (HBL3.out _ HR.out) (j := 3) (u := .string (NM)) rfl
        have b4 := cell_of_blkP (HBL3.out _ HR.out) (j := 4) (u := .bool (e0.at_)) rfl
        have b5 := cell_of_blkP (HBL3.out _ HR.out) (j := 5) (u := .slice p0 N0 c0) rfl
        go_wp2_with fail
        refine (K2.out _ HR.out).mono ?_
        rintro r wz ⟨rfl, hbz⟩
        have HR := Lib.hid (below_next HR.out hbz)
        clear hbz b0 b1 b2 b3 b4 b5
        have b0 := cell_of_blkP (HPL3.out _ HR.out) (j := 0) (u := .slice (some ⟨GN + 1 + 1 + 1, 0, none⟩) 1 1) rfl
        go_wp2_with fail
        refine (K3.out _ HR.out).mono ?_
        rintro r wz ⟨rfl, hbz⟩
        have HR := Lib.hid (below_next HR.out hbz)
        clear hbz b0
        have b0 := cell_of_blkP (HPL3.out _ HR.out) (j := 0) (u := .slice (some ⟨GN + 1 + 1 + 1, 0, none⟩) 1 1) rfl
        go_wp2_with fail
        refine (K4.out _ HR.out).mono ?_
        rintro r wz ⟨rfl, hbz⟩
        have HR := Lib.hid (below_next HR.out hbz)
        clear hbz b0
        go_wp2_with fail
        go_ret
        exact ⟨rfl, below_next HB3.out HR.out⟩
      · by_cases hc : e0.kind = 10
        · have hcc : Hid ((e0.kind == 10) = true) := beq_iff_eq.2 hc
          have HCK := Lib.hid hc
          clear hc
          go_enter Tryz.func8, Tryz.ntmps8
          go_upto_region 1 with fail
          rw [← HW1.out]
          have HR := Lib.hid (Below.refl w1.heap.size w1)
          go_wp2_with fail
          refine (KA.out _ HR.out).mono ?_
          rintro r wy ⟨rfl, hby⟩
          have HR := Lib.hid (below_next HR.out hby)
          clear hby
          have d0_0 := ((HC.out _ HR.out) 0 _ rfl)
          have d0_1 := ((HC.out _ HR.out) 1 _ rfl)
          have d0_2 := ((HC.out _ HR.out) 2 _ rfl)
          have d0_3 := ((HC.out _ HR.out) 3 _ rfl)
          have d0_4 := ((HC.out _ HR.out) 4 _ rfl)
          have d0_5 := ((HC.out _ HR.out) 5 _ rfl)
          go_wp2_with fail
          refine (KF0.out _ HR.out).mono ?_
          rintro r wy ⟨rfl, hby⟩
          have HR := Lib.hid (below_next HR.out hby)
          clear hby d0_0 d0_1 d0_2 d0_3 d0_4 d0_5
          have d0_0 := ((HC.out _ HR.out) 0 _ rfl)
          have d0_1 := ((HC.out _ HR.out) 1 _ rfl)
          have d0_2 := ((HC.out _ HR.out) 2 _ rfl)
          have d0_3 := ((HC.out _ HR.out) 3 _ rfl)
          have d0_4 := ((HC.out _ HR.out) 4 _ rfl)
          have d0_5 := ((HC.out _ HR.out) 5 _ rfl)
          go_wp2_with fail
          refine (KV0.out _ HR.out).mono ?_
          rintro r wy ⟨rfl, hby⟩
          have HR := Lib.hid (below_next HR.out hby)
          clear hby d0_0 d0_1 d0_2 d0_3 d0_4 d0_5
          have HW := Lib.hid (below_next HB1.out HR.out)
          have hblk := (HR.out.block w.heap.size (lt_of_block HBLK.out)).trans HBLK.out
          have hf0 := blk_free hblk 0
          have hf1 := blk_free hblk 1
          have hf2 := blk_free hblk 2
          have hf3 := blk_free hblk 3
          have hf4 := blk_free hblk 4
          have hf5 := blk_free hblk 5
          have d0_0 := ((HC.out _ HR.out) 0 _ rfl)
          have d0_1 := ((HC.out _ HR.out) 1 _ rfl)
          have d0_2 := ((HC.out _ HR.out) 2 _ rfl)
          have d0_3 := ((HC.out _ HR.out) 3 _ rfl)
          have d0_4 := ((HC.out _ HR.out) 4 _ rfl)
          have d0_5 := ((HC.out _ HR.out) 5 _ rfl)
          have hcd := hcc.out
          go_upto_region 26 with fail
          clear hcd
          clear d0_0 d0_1 d0_2 d0_3 d0_4 d0_5 hf0 hf1 hf2 hf3 hf4 hf5
          have HB2 := Lib.hid (HW.out.grown (grown_setCell wy w.heap.size 1 (.int .i64 13)) HW.out.size (fun k hk => by cases hk; exact Nat.le_refl _))
          have hblk2 := heap_set (j := 1) (.int .i64 13) hblk
          obtain ⟨w2, hw2⟩ : ∃ q, q = wy.setCell ⟨w.heap.size, 1, none⟩ (.int .i64 13) := ⟨_, rfl⟩
          rw [← hw2] at HB2 hblk2 ⊢
          have hblk2 : w2.heap[w.heap.size]? = some (.cells #[.int .i64 (e0.kind), .int .i64 (13), .int .i64 (e0.int), .string (e0.name), .bool (e0.at_), .slice p0 N0 c0] 24 (0, 0)) := hblk2
          clear hblk hw2
          have hbad : Tr.validE (Tr.E.mk (e0.kind) (13) (e0.int) (e0.name) (e0.at_) e0.args) = false := by have h := HBAD.out 2; rw [spoil_2, if_pos HCK.out] at h; exact h
          have hlen : (Sy.text (Tr.E.mk (e0.kind) (13) (e0.int) (e0.name) (e0.at_) e0.args)).length ≤ 20000 := by have h := HSP.out 2; rw [spoil_2, if_pos HCK.out] at h; exact h
          have hbd : BdE (Tr.E.mk (e0.kind) (13) (e0.int) (e0.name) (e0.at_) e0.args) := ⟨hbd0.kind, (show Tr.I64 13 by decide), hbd0.int, hbd0.name⟩
          have hsl : SlE w2 (.slice p0 N0 c0) (Tr.E.mk (e0.kind) (13) (e0.int) (e0.name) (e0.at_) e0.args).args := HSW.out.keep HB2.out
          have HX := Lib.hid hbad
          have HLN := Lib.hid hlen
          have HBD := Lib.hid hbd
          have HSL := Lib.hid hsl
          have b0 := cell_of_blkP hblk2 (j := 0) (u := .int .i64 (e0.kind)) rfl
          have b1 := cell_of_blkP hblk2 (j := 1) (u := .int .i64 (13)) rfl
          have b2 := cell_of_blkP hblk2 (j := 2) (u := .int .i64 (e0.int)) rfl
          have b3 := cell_of_blkP hblk2 (j := 3) (u := .string (e0.name)) rfl
          have b4 := cell_of_blkP hblk2 (j := 4) (u := .bool (e0.at_)) rfl
          have b5 := cell_of_blkP hblk2 (j := 5) (u := .slice p0 N0 c0) rfl
          clear hbad hlen hbd hsl
          go_upto_region 27 with fail
          clear b0 b1 b2 b3 b4 b5
          have hpb := prW_below w2 w2.heap.size #[.int .i64 (e0.kind), .int .i64 (13), .int .i64 (e0.int), .string (e0.name), .bool (e0.at_), .slice p0 N0 c0]
          have hpl := (prW_blk w2 #[.int .i64 (e0.kind), .int .i64 (13), .int .i64 (e0.int), .string (e0.name), .bool (e0.at_), .slice p0 N0 c0]).2.2.2.2
          have hpp := prW_prog w2 (e := Tr.E.mk (e0.kind) (13) (e0.int) (e0.name) (e0.at_) e0.args) HBD.out HSL.out
          obtain ⟨w3, hw3⟩ : ∃ q, q = prW w2 w2.heap.size #[.int .i64 (e0.kind), .int .i64 (13), .int .i64 (e0.int), .string (e0.name), .bool (e0.at_), .slice p0 N0 c0] := ⟨_, rfl⟩
          obtain ⟨GN, hGN⟩ : ∃ q, w2.heap.size = q := ⟨_, rfl⟩
          have hpp : SlC w3 (.slice (some ⟨w2.heap.size + 1 + 1 + 1, 0, none⟩) 1 1) (Sy.printP (Tr.E.mk (e0.kind) (13) (e0.int) (e0.name) (e0.at_) e0.args)) := by rw [hw3]; exact hpp
          rw [← hw3] at hpb hpl
          have hw4 := hw3
          unfold prW at hw4
          rw [← hw4]
          have hblk3 := (hpb.block w.heap.size (lt_of_block hblk2)).trans hblk2
          rw [hGN] at hpl hpp ⊢
          have HB3 := Lib.hid (below_next HB2.out hpb)
          have HBW3 := Lib.hid hpb
          have HPP := Lib.hid hpp
          have hez : SyEnv w3 := HEW.out.keep HB3.out
          have hs3 := HSL.out.keep hpb
          have K1 : Hid (∀ W, Below w3.heap.size w3 W → Calls Tryz.prog 13 #[.agg #[.int .i64 (e0.kind), .int .i64 (13), .int .i64 (e0.int), .string (e0.name), .bool (e0.at_), .slice p0 N0 c0]] W fun r w' => r = .returned (.bool false) ∧ Below W.heap.size W w') := fun W hb => by
            have h := validExpr_any _ (Tr.E.mk (e0.kind) (13) (e0.int) (e0.name) (e0.at_) e0.args) (.slice p0 N0 c0) W (Nat.le_refl _) (hez.syn.lex.keep hb) HBD.out (hs3.keep hb)
            rw [HX.out] at h
            exact h
          have K2 : Hid (∀ W, Below w3.heap.size w3 W → Calls Tryz.prog 15 #[.agg #[.int .i64 (e0.kind), .int .i64 (13), .int .i64 (e0.int), .string (e0.name), .bool (e0.at_), .slice p0 N0 c0]] W fun r w' => r = .returned (.string ⟨#[]⟩) ∧ Below W.heap.size W w') := fun W hb => by
            have h := syExpr_any (Tr.E.mk (e0.kind) (13) (e0.int) (e0.name) (e0.at_) e0.args) (.slice p0 N0 c0) W (hez.keep hb) HBD.out (hs3.keep hb) (Nat.le_trans HLN.out (by decide))
            rw [show Sy.exprText _ = [] by unfold Sy.exprText; rw [HX.out]; rfl] at h
            exact h
          have K3 : Hid (∀ W, Below w3.heap.size w3 W → Calls Tryz.prog 20 #[.agg #[.slice (some ⟨GN + 1 + 1 + 1, 0, none⟩) 1 1]] W fun r w' => r = .returned (.bool false) ∧ Below W.heap.size W w') := fun W hb => by
            have h := valid_any _ (Sy.printP (Tr.E.mk (e0.kind) (13) (e0.int) (e0.name) (e0.at_) e0.args)) W (hez.syn.keep hb) (Sy.printP_fit _) (HPP.out.keep hb)
            rw [Sy.printP_bad HX.out] at h
            exact h
          have K4 : Hid (∀ W, Below w3.heap.size w3 W → Calls Tryz.prog 22 #[.agg #[.slice (some ⟨GN + 1 + 1 + 1, 0, none⟩) 1 1]] W fun r w' => r = .returned (.string ⟨#[]⟩) ∧ Below W.heap.size W w') := fun W hb => by
            have h := program_any _ (Sy.printP (Tr.E.mk (e0.kind) (13) (e0.int) (e0.name) (e0.at_) e0.args)) W (hez.keep hb) (Sy.printP_fit _) (HPP.out.keep hb) (Sy.printP_deep _) (by rw [Sy.printP_len]; have := HLN.out; omega)
            rw [show Sy.programText _ = [] by unfold Sy.programText; rw [Sy.printP_bad HX.out]; rfl] at h
            exact h
          have HBL3 : Hid (∀ W, Below w3.heap.size w3 W → W.heap[w.heap.size]? = some (.cells #[.int .i64 (e0.kind), .int .i64 (13), .int .i64 (e0.int), .string (e0.name), .bool (e0.at_), .slice p0 N0 c0] 24 (0, 0))) := fun W hb => (hb.block _ (lt_of_block hblk3)).trans hblk3
          have HPL3 : Hid (∀ W, Below w3.heap.size w3 W → W.heap[GN + 1 + 1 + 1 + 1]? = some (.cells #[.slice (some ⟨GN + 1 + 1 + 1, 0, none⟩) 1 1] 32 (0, 0))) := fun W hb => (hb.block _ (lt_of_block hpl)).trans hpl
          clear hpb hpl hpp hw3 hw4 hblk3 hez hs3 hGN hblk2
          have HR := Lib.hid (Below.refl w3.heap.size w3)
          have b0 := cell_of_blkP (HBL3.out _ HR.out) (j := 0) (u := .int .i64 (e0.kind)) rfl
          have b1 := cell_of_blkP (HBL3.out _ HR.out) (j := 1) (u := .int .i64 (13)) rfl
          have b2 := cell_of_blkP (HBL3.out _ HR.out) (j := 2) (u := .int .i64 (e0.int)) rfl
          have b3 := cell_of_blkP (HBL3.out _ HR.out) (j := 3) (u := .string (e0.name)) rfl
          have b4 := cell_of_blkP (HBL3.out _ HR.out) (j := 4) (u := .bool (e0.at_)) rfl
          have b5 := cell_of_blkP (HBL3.out _ HR.out) (j := 5) (u := .slice p0 N0 c0) rfl
          go_wp2_with fail
          refine (K1.out _ HR.out).mono ?_
          rintro r wz ⟨rfl, hbz⟩
          have HR := Lib.hid (below_next HR.out hbz)
          clear hbz b0 b1 b2 b3 b4 b5
          have b0 := cell_of_blkP (HBL3.out _ HR.out) (j := 0) (u := .int .i64 (e0.kind)) rfl
          have b1 := cell_of_blkP (HBL3.out _ HR.out) (j := 1) (u := .int .i64 (13)) rfl
          have b2 := cell_of_blkP (HBL3.out _ HR.out) (j := 2) (u := .int .i64 (e0.int)) rfl
          have b3 := cell_of_blkP (HBL3.out _ HR.out) (j := 3) (u := .string (e0.name)) rfl
          have b4 := cell_of_blkP (HBL3.out _ HR.out) (j := 4) (u := .bool (e0.at_)) rfl
          have b5 := cell_of_blkP (HBL3.out _ HR.out) (j := 5) (u := .slice p0 N0 c0) rfl
          go_wp2_with fail
          refine (K2.out _ HR.out).mono ?_
          rintro r wz ⟨rfl, hbz⟩
          have HR := Lib.hid (below_next HR.out hbz)
          clear hbz b0 b1 b2 b3 b4 b5
          have b0 := cell_of_blkP (HPL3.out _ HR.out) (j := 0) (u := .slice (some ⟨GN + 1 + 1 + 1, 0, none⟩) 1 1) rfl
          go_wp2_with fail
          refine (K3.out _ HR.out).mono ?_
          rintro r wz ⟨rfl, hbz⟩
          have HR := Lib.hid (below_next HR.out hbz)
          clear hbz b0
          have b0 := cell_of_blkP (HPL3.out _ HR.out) (j := 0) (u := .slice (some ⟨GN + 1 + 1 + 1, 0, none⟩) 1 1) rfl
          go_wp2_with fail
          refine (K4.out _ HR.out).mono ?_
          rintro r wz ⟨rfl, hbz⟩
          have HR := Lib.hid (below_next HR.out hbz)
          clear hbz b0
          go_wp2_with fail
          go_ret
          exact ⟨rfl, below_next HB3.out HR.out⟩
        · have hcc : Hid ((e0.kind == 10) = false) := beq_eq_false_iff_ne.2 hc
          have HCK := Lib.hid hc
          clear hc
          go_enter Tryz.func8, Tryz.ntmps8
          go_upto_region 1 with fail
          rw [← HW1.out]
          have HR := Lib.hid (Below.refl w1.heap.size w1)
          go_wp2_with fail
          refine (KA.out _ HR.out).mono ?_
          rintro r wy ⟨rfl, hby⟩
          have HR := Lib.hid (below_next HR.out hby)
          clear hby
          have d0_0 := ((HC.out _ HR.out) 0 _ rfl)
          have d0_1 := ((HC.out _ HR.out) 1 _ rfl)
          have d0_2 := ((HC.out _ HR.out) 2 _ rfl)
          have d0_3 := ((HC.out _ HR.out) 3 _ rfl)
          have d0_4 := ((HC.out _ HR.out) 4 _ rfl)
          have d0_5 := ((HC.out _ HR.out) 5 _ rfl)
          go_wp2_with fail
          refine (KF0.out _ HR.out).mono ?_
          rintro r wy ⟨rfl, hby⟩
          have HR := Lib.hid (below_next HR.out hby)
          clear hby d0_0 d0_1 d0_2 d0_3 d0_4 d0_5
          have d0_0 := ((HC.out _ HR.out) 0 _ rfl)
          have d0_1 := ((HC.out _ HR.out) 1 _ rfl)
          have d0_2 := ((HC.out _ HR.out) 2 _ rfl)
          have d0_3 := ((HC.out _ HR.out) 3 _ rfl)
          have d0_4 := ((HC.out _ HR.out) 4 _ rfl)
          have d0_5 := ((HC.out _ HR.out) 5 _ rfl)
          go_wp2_with fail
          refine (KV0.out _ HR.out).mono ?_
          rintro r wy ⟨rfl, hby⟩
          have HR := Lib.hid (below_next HR.out hby)
          clear hby d0_0 d0_1 d0_2 d0_3 d0_4 d0_5
          have HW := Lib.hid (below_next HB1.out HR.out)
          have hblk := (HR.out.block w.heap.size (lt_of_block HBLK.out)).trans HBLK.out
          have hf0 := blk_free hblk 0
          have hf1 := blk_free hblk 1
          have hf2 := blk_free hblk 2
          have hf3 := blk_free hblk 3
          have hf4 := blk_free hblk 4
          have hf5 := blk_free hblk 5
          have d0_0 := ((HC.out _ HR.out) 0 _ rfl)
          have d0_1 := ((HC.out _ HR.out) 1 _ rfl)
          have d0_2 := ((HC.out _ HR.out) 2 _ rfl)
          have d0_3 := ((HC.out _ HR.out) 3 _ rfl)
          have d0_4 := ((HC.out _ HR.out) 4 _ rfl)
          have d0_5 := ((HC.out _ HR.out) 5 _ rfl)
          have hcd := hcc.out
          go_upto_region 26 with fail
          clear hcd
          clear d0_0 d0_1 d0_2 d0_3 d0_4 d0_5 hf0 hf1 hf2 hf3 hf4 hf5
          have HB2 := Lib.hid (HW.out.grown (grown_setCell wy w.heap.size 1 (.int .i64 1)) HW.out.size (fun k hk => by cases hk; exact Nat.le_refl _))
          have hblk2 := heap_set (j := 1) (.int .i64 1) hblk
          obtain ⟨w2, hw2⟩ : ∃ q, q = wy.setCell ⟨w.heap.size, 1, none⟩ (.int .i64 1) := ⟨_, rfl⟩
          rw [← hw2] at HB2 hblk2 ⊢
          have hblk2 : w2.heap[w.heap.size]? = some (.cells #[.int .i64 (e0.kind), .int .i64 (1), .int .i64 (e0.int), .string (e0.name), .bool (e0.at_), .slice p0 N0 c0] 24 (0, 0)) := hblk2
          clear hblk hw2
          have hbad : Tr.validE (Tr.E.mk (e0.kind) (1) (e0.int) (e0.name) (e0.at_) e0.args) = false := by have h := HBAD.out 2; rw [spoil_2, if_neg HCK.out] at h; exact h
          have hlen : (Sy.text (Tr.E.mk (e0.kind) (1) (e0.int) (e0.name) (e0.at_) e0.args)).length ≤ 20000 := by have h := HSP.out 2; rw [spoil_2, if_neg HCK.out] at h; exact h
          have hbd : BdE (Tr.E.mk (e0.kind) (1) (e0.int) (e0.name) (e0.at_) e0.args) := ⟨hbd0.kind, (show Tr.I64 1 by decide), hbd0.int, hbd0.name⟩
          have hsl : SlE w2 (.slice p0 N0 c0) (Tr.E.mk (e0.kind) (1) (e0.int) (e0.name) (e0.at_) e0.args).args := HSW.out.keep HB2.out
          have HX := Lib.hid hbad
          have HLN := Lib.hid hlen
          have HBD := Lib.hid hbd
          have HSL := Lib.hid hsl
          have b0 := cell_of_blkP hblk2 (j := 0) (u := .int .i64 (e0.kind)) rfl
          have b1 := cell_of_blkP hblk2 (j := 1) (u := .int .i64 (1)) rfl
          have b2 := cell_of_blkP hblk2 (j := 2) (u := .int .i64 (e0.int)) rfl
          have b3 := cell_of_blkP hblk2 (j := 3) (u := .string (e0.name)) rfl
          have b4 := cell_of_blkP hblk2 (j := 4) (u := .bool (e0.at_)) rfl
          have b5 := cell_of_blkP hblk2 (j := 5) (u := .slice p0 N0 c0) rfl
          clear hbad hlen hbd hsl
          go_upto_region 27 with fail
          clear b0 b1 b2 b3 b4 b5
          have hpb := prW_below w2 w2.heap.size #[.int .i64 (e0.kind), .int .i64 (1), .int .i64 (e0.int), .string (e0.name), .bool (e0.at_), .slice p0 N0 c0]
          have hpl := (prW_blk w2 #[.int .i64 (e0.kind), .int .i64 (1), .int .i64 (e0.int), .string (e0.name), .bool (e0.at_), .slice p0 N0 c0]).2.2.2.2
          have hpp := prW_prog w2 (e := Tr.E.mk (e0.kind) (1) (e0.int) (e0.name) (e0.at_) e0.args) HBD.out HSL.out
          obtain ⟨w3, hw3⟩ : ∃ q, q = prW w2 w2.heap.size #[.int .i64 (e0.kind), .int .i64 (1), .int .i64 (e0.int), .string (e0.name), .bool (e0.at_), .slice p0 N0 c0] := ⟨_, rfl⟩
          obtain ⟨GN, hGN⟩ : ∃ q, w2.heap.size = q := ⟨_, rfl⟩
          have hpp : SlC w3 (.slice (some ⟨w2.heap.size + 1 + 1 + 1, 0, none⟩) 1 1) (Sy.printP (Tr.E.mk (e0.kind) (1) (e0.int) (e0.name) (e0.at_) e0.args)) := by rw [hw3]; exact hpp
          rw [← hw3] at hpb hpl
          have hw4 := hw3
          unfold prW at hw4
          rw [← hw4]
          have hblk3 := (hpb.block w.heap.size (lt_of_block hblk2)).trans hblk2
          rw [hGN] at hpl hpp ⊢
          have HB3 := Lib.hid (below_next HB2.out hpb)
          have HBW3 := Lib.hid hpb
          have HPP := Lib.hid hpp
          have hez : SyEnv w3 := HEW.out.keep HB3.out
          have hs3 := HSL.out.keep hpb
          have K1 : Hid (∀ W, Below w3.heap.size w3 W → Calls Tryz.prog 13 #[.agg #[.int .i64 (e0.kind), .int .i64 (1), .int .i64 (e0.int), .string (e0.name), .bool (e0.at_), .slice p0 N0 c0]] W fun r w' => r = .returned (.bool false) ∧ Below W.heap.size W w') := fun W hb => by
            have h := validExpr_any _ (Tr.E.mk (e0.kind) (1) (e0.int) (e0.name) (e0.at_) e0.args) (.slice p0 N0 c0) W (Nat.le_refl _) (hez.syn.lex.keep hb) HBD.out (hs3.keep hb)
            rw [HX.out] at h
            exact h
          have K2 : Hid (∀ W, Below w3.heap.size w3 W → Calls Tryz.prog 15 #[.agg #[.int .i64 (e0.kind), .int .i64 (1), .int .i64 (e0.int), .string (e0.name), .bool (e0.at_), .slice p0 N0 c0]] W fun r w' => r = .returned (.string ⟨#[]⟩) ∧ Below W.heap.size W w') := fun W hb => by
            have h := syExpr_any (Tr.E.mk (e0.kind) (1) (e0.int) (e0.name) (e0.at_) e0.args) (.slice p0 N0 c0) W (hez.keep hb) HBD.out (hs3.keep hb) (Nat.le_trans HLN.out (by decide))
            rw [show Sy.exprText _ = [] by unfold Sy.exprText; rw [HX.out]; rfl] at h
            exact h
          have K3 : Hid (∀ W, Below w3.heap.size w3 W → Calls Tryz.prog 20 #[.agg #[.slice (some ⟨GN + 1 + 1 + 1, 0, none⟩) 1 1]] W fun r w' => r = .returned (.bool false) ∧ Below W.heap.size W w') := fun W hb => by
            have h := valid_any _ (Sy.printP (Tr.E.mk (e0.kind) (1) (e0.int) (e0.name) (e0.at_) e0.args)) W (hez.syn.keep hb) (Sy.printP_fit _) (HPP.out.keep hb)
            rw [Sy.printP_bad HX.out] at h
            exact h
          have K4 : Hid (∀ W, Below w3.heap.size w3 W → Calls Tryz.prog 22 #[.agg #[.slice (some ⟨GN + 1 + 1 + 1, 0, none⟩) 1 1]] W fun r w' => r = .returned (.string ⟨#[]⟩) ∧ Below W.heap.size W w') := fun W hb => by
            have h := program_any _ (Sy.printP (Tr.E.mk (e0.kind) (1) (e0.int) (e0.name) (e0.at_) e0.args)) W (hez.keep hb) (Sy.printP_fit _) (HPP.out.keep hb) (Sy.printP_deep _) (by rw [Sy.printP_len]; have := HLN.out; omega)
            rw [show Sy.programText _ = [] by unfold Sy.programText; rw [Sy.printP_bad HX.out]; rfl] at h
            exact h
          have HBL3 : Hid (∀ W, Below w3.heap.size w3 W → W.heap[w.heap.size]? = some (.cells #[.int .i64 (e0.kind), .int .i64 (1), .int .i64 (e0.int), .string (e0.name), .bool (e0.at_), .slice p0 N0 c0] 24 (0, 0))) := fun W hb => (hb.block _ (lt_of_block hblk3)).trans hblk3
          have HPL3 : Hid (∀ W, Below w3.heap.size w3 W → W.heap[GN + 1 + 1 + 1 + 1]? = some (.cells #[.slice (some ⟨GN + 1 + 1 + 1, 0, none⟩) 1 1] 32 (0, 0))) := fun W hb => (hb.block _ (lt_of_block hpl)).trans hpl
          clear hpb hpl hpp hw3 hw4 hblk3 hez hs3 hGN hblk2
          have HR := Lib.hid (Below.refl w3.heap.size w3)
          have b0 := cell_of_blkP (HBL3.out _ HR.out) (j := 0) (u := .int .i64 (e0.kind)) rfl
          have b1 := cell_of_blkP (HBL3.out _ HR.out) (j := 1) (u := .int .i64 (1)) rfl
          have b2 := cell_of_blkP (HBL3.out _ HR.out) (j := 2) (u := .int .i64 (e0.int)) rfl
          have b3 := cell_of_blkP (HBL3.out _ HR.out) (j := 3) (u := .string (e0.name)) rfl
          have b4 := cell_of_blkP (HBL3.out _ HR.out) (j := 4) (u := .bool (e0.at_)) rfl
          have b5 := cell_of_blkP (HBL3.out _ HR.out) (j := 5) (u := .slice p0 N0 c0) rfl
          go_wp2_with fail
          refine (K1.out _ HR.out).mono ?_
          rintro r wz ⟨rfl, hbz⟩
          have HR := Lib.hid (below_next HR.out hbz)
          clear hbz b0 b1 b2 b3 b4 b5
          have b0 := cell_of_blkP (HBL3.out _ HR.out) (j := 0) (u := .int .i64 (e0.kind)) rfl
          have b1 := cell_of_blkP (HBL3.out _ HR.out) (j := 1) (u := .int .i64 (1)) rfl
          have b2 := cell_of_blkP (HBL3.out _ HR.out) (j := 2) (u := .int .i64 (e0.int)) rfl
          have b3 := cell_of_blkP (HBL3.out _ HR.out) (j := 3) (u := .string (e0.name)) rfl
          have b4 := cell_of_blkP (HBL3.out _ HR.out) (j := 4) (u := .bool (e0.at_)) rfl
          have b5 := cell_of_blkP (HBL3.out _ HR.out) (j := 5) (u := .slice p0 N0 c0) rfl
          go_wp2_with fail
          refine (K2.out _ HR.out).mono ?_
          rintro r wz ⟨rfl, hbz⟩
          have HR := Lib.hid (below_next HR.out hbz)
          clear hbz b0 b1 b2 b3 b4 b5
          have b0 := cell_of_blkP (HPL3.out _ HR.out) (j := 0) (u := .slice (some ⟨GN + 1 + 1 + 1, 0, none⟩) 1 1) rfl
          go_wp2_with fail
          refine (K3.out _ HR.out).mono ?_
          rintro r wz ⟨rfl, hbz⟩
          have HR := Lib.hid (below_next HR.out hbz)
          clear hbz b0
          have b0 := cell_of_blkP (HPL3.out _ HR.out) (j := 0) (u := .slice (some ⟨GN + 1 + 1 + 1, 0, none⟩) 1 1) rfl
          go_wp2_with fail
          refine (K4.out _ HR.out).mono ?_
          rintro r wz ⟨rfl, hbz⟩
          have HR := Lib.hid (below_next HR.out hbz)
          clear hbz b0
          go_wp2_with fail
          go_ret
          exact ⟨rfl, below_next HB3.out HR.out⟩
      · by_cases hc : e0.kind = 0
        · have hcc : Hid ((e0.kind == 0) = true) := beq_iff_eq.2 hc
          have HCK := Lib.hid hc
          clear hc
          go_enter Tryz.func8, Tryz.ntmps8
          go_upto_region 1 with fail
          rw [← HW1.out]
          have HR := Lib.hid (Below.refl w1.heap.size w1)
          go_wp2_with fail
          refine (KA.out _ HR.out).mono ?_
          rintro r wy ⟨rfl, hby⟩
          have HR := Lib.hid (below_next HR.out hby)
          clear hby
          have d0_0 := ((HC.out _ HR.out) 0 _ rfl)
          have d0_1 := ((HC.out _ HR.out) 1 _ rfl)
          have d0_2 := ((HC.out _ HR.out) 2 _ rfl)
          have d0_3 := ((HC.out _ HR.out) 3 _ rfl)
          have d0_4 := ((HC.out _ HR.out) 4 _ rfl)
          have d0_5 := ((HC.out _ HR.out) 5 _ rfl)
          go_wp2_with fail
          refine (KF0.out _ HR.out).mono ?_
          rintro r wy ⟨rfl, hby⟩
          have HR := Lib.hid (below_next HR.out hby)
          clear hby d0_0 d0_1 d0_2 d0_3 d0_4 d0_5
          have d0_0 := ((HC.out _ HR.out) 0 _ rfl)
          have d0_1 := ((HC.out _ HR.out) 1 _ rfl)
          have d0_2 := ((HC.out _ HR.out) 2 _ rfl)
          have d0_3 := ((HC.out _ HR.out) 3 _ rfl)
          have d0_4 := ((HC.out _ HR.out) 4 _ rfl)
          have d0_5 := ((HC.out _ HR.out) 5 _ rfl)
          go_wp2_with fail
          refine (KV0.out _ HR.out).mono ?_
          rintro r wy ⟨rfl, hby⟩
          have HR := Lib.hid (below_next HR.out hby)
          clear hby d0_0 d0_1 d0_2 d0_3 d0_4 d0_5
          have HW := Lib.hid (below_next HB1.out HR.out)
          have hblk := (HR.out.block w.heap.size (lt_of_block HBLK.out)).trans HBLK.out
          have hf0 := blk_free hblk 0
          have hf1 := blk_free hblk 1
          have hf2 := blk_free hblk 2
          have hf3 := blk_free hblk 3
          have hf4 := blk_free hblk 4
          have hf5 := blk_free hblk 5
          have d0_0 := ((HC.out _ HR.out) 0 _ rfl)
          have d0_1 := ((HC.out _ HR.out) 1 _ rfl)
          have d0_2 := ((HC.out _ HR.out) 2 _ rfl)
          have d0_3 := ((HC.out _ HR.out) 3 _ rfl)
          have d0_4 := ((HC.out _ HR.out) 4 _ rfl)
          have d0_5 := ((HC.out _ HR.out) 5 _ rfl)
          have hcd := hcc.out
          go_upto_region 26 with fail
          clear hcd
          clear d0_0 d0_1 d0_2 d0_3 d0_4 d0_5 hf0 hf1 hf2 hf3 hf4 hf5
          have HB2 := Lib.hid (HW.out.grown (grown_setCell wy w.heap.size 2 (.int .i64 (-1))) HW.out.size (fun k hk => by cases hk; exact Nat.le_refl _))
          have hblk2 := heap_set (j := 2) (.int .i64 (-1)) hblk
          obtain ⟨w2, hw2⟩ : ∃ q, q = wy.setCell ⟨w.heap.size, 2, none⟩ (.int .i64 (-1)) := ⟨_, rfl⟩
          rw [← hw2] at HB2 hblk2 ⊢
          have hblk2 : w2.heap[w.heap.size]? = some (.cells #[.int .i64 (e0.kind), .int .i64 (e0.op), .int .i64 (-1), .string (e0.name), .bool (e0.at_), .slice p0 N0 c0] 24 (0, 0)) := hblk2
          clear hblk hw2
          have hbad : Tr.validE (Tr.E.mk (e0.kind) (e0.op) (-1) (e0.name) (e0.at_) e0.args) = false := by have h := HBAD.out 3; rw [spoil_3, if_pos HCK.out] at h; exact h
          have hlen : (Sy.text (Tr.E.mk (e0.kind) (e0.op) (-1) (e0.name) (e0.at_) e0.args)).length ≤ 20000 := by have h := HSP.out 3; rw [spoil_3, if_pos HCK.out] at h; exact h
          have hbd : BdE (Tr.E.mk (e0.kind) (e0.op) (-1) (e0.name) (e0.at_) e0.args) := ⟨hbd0.kind, hbd0.op, (show Tr.I64 (-1) by decide), hbd0.name⟩
          have hsl : SlE w2 (.slice p0 N0 c0) (Tr.E.mk (e0.kind) (e0.op) (-1) (e0.name) (e0.at_) e0.args).args := HSW.out.keep HB2.out
          have HX := Lib.hid hbad
          have HLN := Lib.hid hlen
          have HBD := Lib.hid hbd
          have HSL := Lib.hid hsl
          have b0 := cell_of_blkP hblk2 (j := 0) (u := .int .i64 (e0.kind)) rfl
          have b1 := cell_of_blkP hblk2 (j := 1) (u := .int .i64 (e0.op)) rfl
          have b2 := cell_of_blkP hblk2 (j := 2) (u := .int .i64 (-1)) rfl
          have b3 := cell_of_blkP hblk2 (j := 3) (u := .string (e0.name)) rfl
          have b4 := cell_of_blkP hblk2 (j := 4) (u := .bool (e0.at_)) rfl
          have b5 := cell_of_blkP hblk2 (j := 5) (u := .slice p0 N0 c0) rfl
          clear hbad hlen hbd hsl
          go_upto_region 27 with fail
          clear b0 b1 b2 b3 b4 b5
          have hpb := prW_below w2 w2.heap.size #[.int .i64 (e0.kind), .int .i64 (e0.op), .int .i64 (-1), .string (e0.name), .bool (e0.at_), .slice p0 N0 c0]
          have hpl := (prW_blk w2 #[.int .i64 (e0.kind), .int .i64 (e0.op), .int .i64 (-1), .string (e0.name), .bool (e0.at_), .slice p0 N0 c0]).2.2.2.2
          have hpp := prW_prog w2 (e := Tr.E.mk (e0.kind) (e0.op) (-1) (e0.name) (e0.at_) e0.args) HBD.out HSL.out
          obtain ⟨w3, hw3⟩ : ∃ q, q = prW w2 w2.heap.size #[.int .i64 (e0.kind), .int .i64 (e0.op), .int .i64 (-1), .string (e0.name), .bool (e0.at_), .slice p0 N0 c0] := ⟨_, rfl⟩
          obtain ⟨GN, hGN⟩ : ∃ q, w2.heap.size = q := ⟨_, rfl⟩
          have hpp : SlC w3 (.slice (some ⟨w2.heap.size + 1 + 1 + 1, 0, none⟩) 1 1) (Sy.printP (Tr.E.mk (e0.kind) (e0.op) (-1) (e0.name) (e0.at_) e0.args)) := by rw [hw3]; exact hpp
          rw [← hw3] at hpb hpl
          have hw4 := hw3
          unfold prW at hw4
          rw [← hw4]
          have hblk3 := (hpb.block w.heap.size (lt_of_block hblk2)).trans hblk2
          rw [hGN] at hpl hpp ⊢
          have HB3 := Lib.hid (below_next HB2.out hpb)
          have HBW3 := Lib.hid hpb
          have HPP := Lib.hid hpp
          have hez : SyEnv w3 := HEW.out.keep HB3.out
          have hs3 := HSL.out.keep hpb
          have K1 : Hid (∀ W, Below w3.heap.size w3 W → Calls Tryz.prog 13 #[.agg #[.int .i64 (e0.kind), .int .i64 (e0.op), .int .i64 (-1), .string (e0.name), .bool (e0.at_), .slice p0 N0 c0]] W fun r w' => r = .returned (.bool false) ∧ Below W.heap.size W w') := fun W hb => by
            have h := validExpr_any _ (Tr.E.mk (e0.kind) (e0.op) (-1) (e0.name) (e0.at_) e0.args) (.slice p0 N0 c0) W (Nat.le_refl _) (hez.syn.lex.keep hb) HBD.out (hs3.keep hb)
            rw [HX.out] at h
            exact h
          have K2 : Hid (∀ W, Below w3.heap.size w3 W → Calls Tryz.prog 15 #[.agg #[.int .i64 (e0.kind), .int .i64 (e0.op), .int .i64 (-1), .string (e0.name), .bool (e0.at_), .slice p0 N0 c0]] W fun r w' => r = .returned (.string ⟨#[]⟩) ∧ Below W.heap.size W w') := fun W hb => by
            have h := syExpr_any (Tr.E.mk (e0.kind) (e0.op) (-1) (e0.name) (e0.at_) e0.args) (.slice p0 N0 c0) W (hez.keep hb) HBD.out (hs3.keep hb) (Nat.le_trans HLN.out (by decide))
            rw [show Sy.exprText _ = [] by unfold Sy.exprText; rw [HX.out]; rfl] at h
            exact h
          have K3 : Hid (∀ W, Below w3.heap.size w3 W → Calls Tryz.prog 20 #[.agg #[.slice (some ⟨GN + 1 + 1 + 1, 0, none⟩) 1 1]] W fun r w' => r = .returned (.bool false) ∧ Below W.heap.size W w') := fun W hb => by
            have h := valid_any _ (Sy.printP (Tr.E.mk (e0.kind) (e0.op) (-1) (e0.name) (e0.at_) e0.args)) W (hez.syn.keep hb) (Sy.printP_fit _) (HPP.out.keep hb)
            rw [Sy.printP_bad HX.out] at h
            exact h
          have K4 : Hid (∀ W, Below w3.heap.size w3 W → Calls Tryz.prog 22 #[.agg #[.slice (some ⟨GN + 1 + 1 + 1, 0, none⟩) 1 1]] W fun r w' => r = .returned (.string ⟨#[]⟩) ∧ Below W.heap.size W w') := fun W hb => by
            have h := program_any _ (Sy.printP (Tr.E.mk (e0.kind) (e0.op) (-1) (e0.name) (e0.at_) e0.args)) W (hez.keep hb) (Sy.printP_fit _) (HPP.out.keep hb) (Sy.printP_deep _) (by rw [Sy.printP_len]; have := HLN.out; omega)
            rw [show Sy.programText _ = [] by unfold Sy.programText; rw [Sy.printP_bad HX.out]; rfl] at h
            exact h
          have HBL3 : Hid (∀ W, Below w3.heap.size w3 W → W.heap[w.heap.size]? = some (.cells #[.int .i64 (e0.kind), .int .i64 (e0.op), .int .i64 (-1), .string (e0.name), .bool (e0.at_), .slice p0 N0 c0] 24 (0, 0))) := fun W hb => (hb.block _ (lt_of_block hblk3)).trans hblk3
          have HPL3 : Hid (∀ W, Below w3.heap.size w3 W → W.heap[GN + 1 + 1 + 1 + 1]? = some (.cells #[.slice (some ⟨GN + 1 + 1 + 1, 0, none⟩) 1 1] 32 (0, 0))) := fun W hb => (hb.block _ (lt_of_block hpl)).trans hpl
          clear hpb hpl hpp hw3 hw4 hblk3 hez hs3 hGN hblk2
          have HR := Lib.hid (Below.refl w3.heap.size w3)
          have b0 := cell_of_blkP (HBL3.out _ HR.out) (j := 0) (u := .int .i64 (e0.kind)) rfl
          have b1 := cell_of_blkP (HBL3.out _ HR.out) (j := 1) (u := .int .i64 (e0.op)) rfl
          have b2 := cell_of_blkP (HBL3.out _ HR.out) (j := 2) (u := .int .i64 (-1)) rfl
          have b3 := cell_of_blkP (HBL3.out _ HR.out) (j := 3) (u := .string (e0.name)) rfl
          have b4 := cell_of_blkP (HBL3.out _ HR.out) (j := 4) (u := .bool (e0.at_)) rfl
          have b5 := cell_of_blkP (HBL3.out _ HR.out) (j := 5) (u := .slice p0 N0 c0) rfl
          go_wp2_with fail
          refine (K1.out _ HR.out).mono ?_
          rintro r wz ⟨rfl, hbz⟩
          have HR := Lib.hid (below_next HR.out hbz)
          clear hbz b0 b1 b2 b3 b4 b5
          have b0 := cell_of_blkP (HBL3.out _ HR.out) (j := 0) (u := .int .i64 (e0.kind)) rfl
          have b1 := cell_of_blkP (HBL3.out _ HR.out) (j := 1) (u := .int .i64 (e0.op)) rfl
          have b2 := cell_of_blkP (HBL3.out _ HR.out) (j := 2) (u := .int .i64 (-1)) rfl
          have b3 := cell_of_blkP (HBL3.out _ HR.out) (j := 3) (u := .string (e0.name)) rfl
          have b4 := cell_of_blkP (HBL3.out _ HR.out) (j := 4) (u := .bool (e0.at_)) rfl
          have b5 := cell_of_blkP (HBL3.out _ HR.out) (j := 5) (u := .slice p0 N0 c0) rfl
          go_wp2_with fail
          refine (K2.out _ HR.out).mono ?_
          rintro r wz ⟨rfl, hbz⟩
          have HR := Lib.hid (below_next HR.out hbz)
          clear hbz b0 b1 b2 b3 b4 b5
          have b0 := cell_of_blkP (HPL3.out _ HR.out) (j := 0) (u := .slice (some ⟨GN + 1 + 1 + 1, 0, none⟩) 1 1) rfl
          go_wp2_with fail
          refine (K3.out _ HR.out).mono ?_
          rintro r wz ⟨rfl, hbz⟩
          have HR := Lib.hid (below_next HR.out hbz)
          clear hbz b0
          have b0 := cell_of_blkP (HPL3.out _ HR.out) (j := 0) (u := .slice (some ⟨GN + 1 + 1 + 1, 0, none⟩) 1 1) rfl
          go_wp2_with fail
          refine (K4.out _ HR.out).mono ?_
          rintro r wz ⟨rfl, hbz⟩
          have HR := Lib.hid (below_next HR.out hbz)
          clear hbz b0
          go_wp2_with fail
          go_ret
          exact ⟨rfl, below_next HB3.out HR.out⟩
        · have hcc : Hid ((e0.kind == 0) = false) := beq_eq_false_iff_ne.2 hc
          have HCK := Lib.hid hc
          clear hc
          go_enter Tryz.func8, Tryz.ntmps8
          go_upto_region 1 with fail
          rw [← HW1.out]
          have HR := Lib.hid (Below.refl w1.heap.size w1)
          go_wp2_with fail
          refine (KA.out _ HR.out).mono ?_
          rintro r wy ⟨rfl, hby⟩
          have HR := Lib.hid (below_next HR.out hby)
          clear hby
          have d0_0 := ((HC.out _ HR.out) 0 _ rfl)
          have d0_1 := ((HC.out _ HR.out) 1 _ rfl)
          have d0_2 := ((HC.out _ HR.out) 2 _ rfl)
          have d0_3 := ((HC.out _ HR.out) 3 _ rfl)
          have d0_4 := ((HC.out _ HR.out) 4 _ rfl)
          have d0_5 := ((HC.out _ HR.out) 5 _ rfl)
          go_wp2_with fail
          refine (KF0.out _ HR.out).mono ?_
          rintro r wy ⟨rfl, hby⟩
          have HR := Lib.hid (below_next HR.out hby)
          clear hby d0_0 d0_1 d0_2 d0_3 d0_4 d0_5
          have d0_0 := ((HC.out _ HR.out) 0 _ rfl)
          have d0_1 := ((HC.out _ HR.out) 1 _ rfl)
          have d0_2 := ((HC.out _ HR.out) 2 _ rfl)
          have d0_3 := ((HC.out _ HR.out) 3 _ rfl)
          have d0_4 := ((HC.out _ HR.out) 4 _ rfl)
          have d0_5 := ((HC.out _ HR.out) 5 _ rfl)
          go_wp2_with fail
          refine (KV0.out _ HR.out).mono ?_
          rintro r wy ⟨rfl, hby⟩
          have HR := Lib.hid (below_next HR.out hby)
          clear hby d0_0 d0_1 d0_2 d0_3 d0_4 d0_5
          have HW := Lib.hid (below_next HB1.out HR.out)
          have hblk := (HR.out.block w.heap.size (lt_of_block HBLK.out)).trans HBLK.out
          have hf0 := blk_free hblk 0
          have hf1 := blk_free hblk 1
          have hf2 := blk_free hblk 2
          have hf3 := blk_free hblk 3
          have hf4 := blk_free hblk 4
          have hf5 := blk_free hblk 5
          have d0_0 := ((HC.out _ HR.out) 0 _ rfl)
          have d0_1 := ((HC.out _ HR.out) 1 _ rfl)
          have d0_2 := ((HC.out _ HR.out) 2 _ rfl)
          have d0_3 := ((HC.out _ HR.out) 3 _ rfl)
          have d0_4 := ((HC.out _ HR.out) 4 _ rfl)
          have d0_5 := ((HC.out _ HR.out) 5 _ rfl)
          have hcd := hcc.out
          go_upto_region 26 with fail
          clear hcd
          clear d0_0 d0_1 d0_2 d0_3 d0_4 d0_5 hf0 hf1 hf2 hf3 hf4 hf5
          have HB2 := Lib.hid (HW.out.grown (grown_setCell wy w.heap.size 2 (.int .i64 1)) HW.out.size (fun k hk => by cases hk; exact Nat.le_refl _))
          have hblk2 := heap_set (j := 2) (.int .i64 1) hblk
          obtain ⟨w2, hw2⟩ : ∃ q, q = wy.setCell ⟨w.heap.size, 2, none⟩ (.int .i64 1) := ⟨_, rfl⟩
          rw [← hw2] at HB2 hblk2 ⊢
          have hblk2 : w2.heap[w.heap.size]? = some (.cells #[.int .i64 (e0.kind), .int .i64 (e0.op), .int .i64 (1), .string (e0.name), .bool (e0.at_), .slice p0 N0 c0] 24 (0, 0)) := hblk2
          clear hblk hw2
          have hbad : Tr.validE (Tr.E.mk (e0.kind) (e0.op) (1) (e0.name) (e0.at_) e0.args) = false := by have h := HBAD.out 3; rw [spoil_3, if_neg HCK.out] at h; exact h
          have hlen : (Sy.text (Tr.E.mk (e0.kind) (e0.op) (1) (e0.name) (e0.at_) e0.args)).length ≤ 20000 := by have h := HSP.out 3; rw [spoil_3, if_neg HCK.out] at h; exact h
          have hbd : BdE (Tr.E.mk (e0.kind) (e0.op) (1) (e0.name) (e0.at_) e0.args) := ⟨hbd0.kind, hbd0.op, (show Tr.I64 1 by decide), hbd0.name⟩
          have hsl : SlE w2 (.slice p0 N0 c0) (Tr.E.mk (e0.kind) (e0.op) (1) (e0.name) (e0.at_) e0.args).args := HSW.out.keep HB2.out
          have HX := Lib.hid hbad
          have HLN := Lib.hid hlen
          have HBD := Lib.hid hbd
          have HSL := Lib.hid hsl
          have b0 := cell_of_blkP hblk2 (j := 0) (u := .int .i64 (e0.kind)) rfl
          have b1 := cell_of_blkP hblk2 (j := 1) (u := .int .i64 (e0.op)) rfl
          have b2 := cell_of_blkP hblk2 (j := 2) (u := .int .i64 (1)) rfl
          have b3 := cell_of_blkP hblk2 (j := 3) (u := .string (e0.name)) rfl
          have b4 := cell_of_blkP hblk2 (j := 4) (u := .bool (e0.at_)) rfl
          have b5 := cell_of_blkP hblk2 (j := 5) (u := .slice p0 N0 c0) rfl
          clear hbad hlen hbd hsl
          go_upto_region 27 with fail
          clear b0 b1 b2 b3 b4 b5
          have hpb := prW_below w2 w2.heap.size #[.int .i64 (e0.kind), .int .i64 (e0.op), .int .i64 (1), .string (e0.name), .bool (e0.at_), .slice p0 N0 c0]
          have hpl := (prW_blk w2 #[.int .i64 (e0.kind), .int .i64 (e0.op), .int .i64 (1), .string (e0.name), .bool (e0.at_), .slice p0 N0 c0]).2.2.2.2
          have hpp := prW_prog w2 (e := Tr.E.mk (e0.kind) (e0.op) (1) (e0.name) (e0.at_) e0.args) HBD.out HSL.out
          obtain ⟨w3, hw3⟩ : ∃ q, q = prW w2 w2.heap.size #[.int .i64 (e0.kind), .int .i64 (e0.op), .int .i64 (1), .string (e0.name), .bool (e0.at_), .slice p0 N0 c0] := ⟨_, rfl⟩
          obtain ⟨GN, hGN⟩ : ∃ q, w2.heap.size = q := ⟨_, rfl⟩
          have hpp : SlC w3 (.slice (some ⟨w2.heap.size + 1 + 1 + 1, 0, none⟩) 1 1) (Sy.printP (Tr.E.mk (e0.kind) (e0.op) (1) (e0.name) (e0.at_) e0.args)) := by rw [hw3]; exact hpp
          rw [← hw3] at hpb hpl
          have hw4 := hw3
          unfold prW at hw4
          rw [← hw4]
          have hblk3 := (hpb.block w.heap.size (lt_of_block hblk2)).trans hblk2
          rw [hGN] at hpl hpp ⊢
          have HB3 := Lib.hid (below_next HB2.out hpb)
          have HBW3 := Lib.hid hpb
          have HPP := Lib.hid hpp
          have hez : SyEnv w3 := HEW.out.keep HB3.out
          have hs3 := HSL.out.keep hpb
          have K1 : Hid (∀ W, Below w3.heap.size w3 W → Calls Tryz.prog 13 #[.agg #[.int .i64 (e0.kind), .int .i64 (e0.op), .int .i64 (1), .string (e0.name), .bool (e0.at_), .slice p0 N0 c0]] W fun r w' => r = .returned (.bool false) ∧ Below W.heap.size W w') := fun W hb => by
            have h := validExpr_any _ (Tr.E.mk (e0.kind) (e0.op) (1) (e0.name) (e0.at_) e0.args) (.slice p0 N0 c0) W (Nat.le_refl _) (hez.syn.lex.keep hb) HBD.out (hs3.keep hb)
            rw [HX.out] at h
            exact h
          have K2 : Hid (∀ W, Below w3.heap.size w3 W → Calls Tryz.prog 15 #[.agg #[.int .i64 (e0.kind), .int .i64 (e0.op), .int .i64 (1), .string (e0.name), .bool (e0.at_), .slice p0 N0 c0]] W fun r w' => r = .returned (.string ⟨#[]⟩) ∧ Below W.heap.size W w') := fun W hb => by
            have h := syExpr_any (Tr.E.mk (e0.kind) (e0.op) (1) (e0.name) (e0.at_) e0.args) (.slice p0 N0 c0) W (hez.keep hb) HBD.out (hs3.keep hb) (Nat.le_trans HLN.out (by decide))
            rw [show Sy.exprText _ = [] by unfold Sy.exprText; rw [HX.out]; rfl] at h
            exact h
          have K3 : Hid (∀ W, Below w3.heap.size w3 W → Calls Tryz.prog 20 #[.agg #[.slice (some ⟨GN + 1 + 1 + 1, 0, none⟩) 1 1]] W fun r w' => r = .returned (.bool false) ∧ Below W.heap.size W w') := fun W hb => by
            have h := valid_any _ (Sy.printP (Tr.E.mk (e0.kind) (e0.op) (1) (e0.name) (e0.at_) e0.args)) W (hez.syn.keep hb) (Sy.printP_fit _) (HPP.out.keep hb)
            rw [Sy.printP_bad HX.out] at h
            exact h
          have K4 : Hid (∀ W, Below w3.heap.size w3 W → Calls Tryz.prog 22 #[.agg #[.slice (some ⟨GN + 1 + 1 + 1, 0, none⟩) 1 1]] W fun r w' => r = .returned (.string ⟨#[]⟩) ∧ Below W.heap.size W w') := fun W hb => by
            have h := program_any _ (Sy.printP (Tr.E.mk (e0.kind) (e0.op) (1) (e0.name) (e0.at_) e0.args)) W (hez.keep hb) (Sy.printP_fit _) (HPP.out.keep hb) (Sy.printP_deep _) (by rw [Sy.printP_len]; have := HLN.out; omega)
            rw [show Sy.programText _ = [] by unfold Sy.programText; rw [Sy.printP_bad HX.out]; rfl] at h
            exact h
          have HBL3 : Hid (∀ W, Below w3.heap.size w3 W → W.heap[w.heap.size]? = some (.cells #[.int .i64 (e0.kind), .int .i64 (e0.op), .int .i64 (1), .string (e0.name), .bool (e0.at_), .slice p0 N0 c0] 24 (0, 0))) := fun W hb => (hb.block _ (lt_of_block hblk3)).trans hblk3
          have HPL3 : Hid (∀ W, Below w3.heap.size w3 W → W.heap[GN + 1 + 1 + 1 + 1]? = some (.cells #[.slice (some ⟨GN + 1 + 1 + 1, 0, none⟩) 1 1] 32 (0, 0))) := fun W hb => (hb.block _ (lt_of_block hpl)).trans hpl
          clear hpb hpl hpp hw3 hw4 hblk3 hez hs3 hGN hblk2
          have HR := Lib.hid (Below.refl w3.heap.size w3)
          have b0 := cell_of_blkP (HBL3.out _ HR.out) (j := 0) (u := .int .i64 (e0.kind)) rfl
          have b1 := cell_of_blkP (HBL3.out _ HR.out) (j := 1) (u := .int .i64 (e0.op)) rfl
          have b2 := cell_of_blkP (HBL3.out _ HR.out) (j := 2) (u := .int .i64 (1)) rfl
          have b3 := cell_of_blkP (HBL3.out _ HR.out) (j := 3) (u := .string (e0.name)) rfl
          have b4 := cell_of_blkP (HBL3.out _ HR.out) (j := 4) (u := .bool (e0.at_)) rfl
          have b5 := cell_of_blkP (HBL3.out _ HR.out) (j := 5) (u := .slice p0 N0 c0) rfl
          go_wp2_with fail
          refine (K1.out _ HR.out).mono ?_
          rintro r wz ⟨rfl, hbz⟩
          have HR := Lib.hid (below_next HR.out hbz)
          clear hbz b0 b1 b2 b3 b4 b5
          have b0 := cell_of_blkP (HBL3.out _ HR.out) (j := 0) (u := .int .i64 (e0.kind)) rfl
          have b1 := cell_of_blkP (HBL3.out _ HR.out) (j := 1) (u := .int .i64 (e0.op)) rfl
          have b2 := cell_of_blkP (HBL3.out _ HR.out) (j := 2) (u := .int .i64 (1)) rfl
          have b3 := cell_of_blkP (HBL3.out _ HR.out) (j := 3) (u := .string (e0.name)) rfl
          have b4 := cell_of_blkP (HBL3.out _ HR.out) (j := 4) (u := .bool (e0.at_)) rfl
          have b5 := cell_of_blkP (HBL3.out _ HR.out) (j := 5) (u := .slice p0 N0 c0) rfl
          go_wp2_with fail
          refine (K2.out _ HR.out).mono ?_
          rintro r wz ⟨rfl, hbz⟩
          have HR := Lib.hid (below_next HR.out hbz)
          clear hbz b0 b1 b2 b3 b4 b5
          have b0 := cell_of_blkP (HPL3.out _ HR.out) (j := 0) (u := .slice (some ⟨GN + 1 + 1 + 1, 0, none⟩) 1 1) rfl
          go_wp2_with fail
          refine (K3.out _ HR.out).mono ?_
          rintro r wz ⟨rfl, hbz⟩
          have HR := Lib.hid (below_next HR.out hbz)
          clear hbz b0
          have b0 := cell_of_blkP (HPL3.out _ HR.out) (j := 0) (u := .slice (some ⟨GN + 1 + 1 + 1, 0, none⟩) 1 1) rfl
          go_wp2_with fail
          refine (K4.out _ HR.out).mono ?_
          rintro r wz ⟨rfl, hbz⟩
          have HR := Lib.hid (below_next HR.out hbz)
          clear hbz b0
          go_wp2_with fail
          go_ret
          exact ⟨rfl, below_next HB3.out HR.out⟩
      · by_cases hc : e0.kind = 5
        · have hcc : Hid ((e0.kind == 5) = true) := beq_iff_eq.2 hc
          have HCK := Lib.hid hc
          clear hc
          go_enter Tryz.func8, Tryz.ntmps8
          go_upto_region 1 with fail
          rw [← HW1.out]
          have HR := Lib.hid (Below.refl w1.heap.size w1)
          go_wp2_with fail
          refine (KA.out _ HR.out).mono ?_
          rintro r wy ⟨rfl, hby⟩
          have HR := Lib.hid (below_next HR.out hby)
          clear hby
          have d0_0 := ((HC.out _ HR.out) 0 _ rfl)
          have d0_1 := ((HC.out _ HR.out) 1 _ rfl)
          have d0_2 := ((HC.out _ HR.out) 2 _ rfl)
          have d0_3 := ((HC.out _ HR.out) 3 _ rfl)
          have d0_4 := ((HC.out _ HR.out) 4 _ rfl)
          have d0_5 := ((HC.out _ HR.out) 5 _ rfl)
          go_wp2_with fail
          refine (KF0.out _ HR.out).mono ?_
          rintro r wy ⟨rfl, hby⟩
          have HR := Lib.hid (below_next HR.out hby)
          clear hby d0_0 d0_1 d0_2 d0_3 d0_4 d0_5
          have d0_0 := ((HC.out _ HR.out) 0 _ rfl)
          have d0_1 := ((HC.out _ HR.out) 1 _ rfl)
          have d0_2 := ((HC.out _ HR.out) 2 _ rfl)
          have d0_3 := ((HC.out _ HR.out) 3 _ rfl)
          have d0_4 := ((HC.out _ HR.out) 4 _ rfl)
          have d0_5 := ((HC.out _ HR.out) 5 _ rfl)
          go_wp2_with fail
          refine (KV0.out _ HR.out).mono ?_
          rintro r wy ⟨rfl, hby⟩
          have HR := Lib.hid (below_next HR.out hby)
          clear hby d0_0 d0_1 d0_2 d0_3 d0_4 d0_5
          have HW := Lib.hid (below_next HB1.out HR.out)
          have hblk := (HR.out.block w.heap.size (lt_of_block HBLK.out)).trans HBLK.out
          have hf0 := blk_free hblk 0
          have hf1 := blk_free hblk 1
          have hf2 := blk_free hblk 2
          have hf3 := blk_free hblk 3
          have hf4 := blk_free hblk 4
          have hf5 := blk_free hblk 5
          have d0_0 := ((HC.out _ HR.out) 0 _ rfl)
          have d0_1 := ((HC.out _ HR.out) 1 _ rfl)
          have d0_2 := ((HC.out _ HR.out) 2 _ rfl)
          have d0_3 := ((HC.out _ HR.out) 3 _ rfl)
          have d0_4 := ((HC.out _ HR.out) 4 _ rfl)
          have d0_5 := ((HC.out _ HR.out) 5 _ rfl)
          have hcd := hcc.out
          go_upto_region 26 with fail
          clear hcd
          clear d0_0 d0_1 d0_2 d0_3 d0_4 d0_5 hf0 hf1 hf2 hf3 hf4 hf5
          have HB2 := Lib.hid (HW.out.grown (grown_setCell wy w.heap.size 3 (.string ⟨#[99]⟩)) HW.out.size (fun k hk => by cases hk; exact Nat.le_refl _))
          have hblk2 := heap_set (j := 3) (.string ⟨#[99]⟩) hblk
          obtain ⟨w2, hw2⟩ : ∃ q, q = wy.setCell ⟨w.heap.size, 3, none⟩ (.string ⟨#[99]⟩) := ⟨_, rfl⟩
          rw [← hw2] at HB2 hblk2 ⊢
          have hblk2 : w2.heap[w.heap.size]? = some (.cells #[.int .i64 (e0.kind), .int .i64 (e0.op), .int .i64 (e0.int), .string (⟨#[99]⟩), .bool (e0.at_), .slice p0 N0 c0] 24 (0, 0)) := hblk2
          clear hblk hw2
          have hbad : Tr.validE (Tr.E.mk (e0.kind) (e0.op) (e0.int) (⟨#[99]⟩) (e0.at_) e0.args) = false := by have h := HBAD.out 4; rw [spoil_4, if_pos HCK.out] at h; exact h
          have hlen : (Sy.text (Tr.E.mk (e0.kind) (e0.op) (e0.int) (⟨#[99]⟩) (e0.at_) e0.args)).length ≤ 20000 := by have h := HSP.out 4; rw [spoil_4, if_pos HCK.out] at h; exact h
          have hbd : BdE (Tr.E.mk (e0.kind) (e0.op) (e0.int) (⟨#[99]⟩) (e0.at_) e0.args) := ⟨hbd0.kind, hbd0.op, hbd0.int, (show (⟨#[99]⟩ : ByteArray).size ≤ maxLen by decide)⟩
          have hsl : SlE w2 (.slice p0 N0 c0) (Tr.E.mk (e0.kind) (e0.op) (e0.int) (⟨#[99]⟩) (e0.at_) e0.args).args := HSW.out.keep HB2.out
          have HX := Lib.hid hbad
          have HLN := Lib.hid hlen
          have HBD := Lib.hid hbd
          have HSL := Lib.hid hsl
          have b0 := cell_of_blkP hblk2 (j := 0) (u := .int .i64 (e0.kind)) rfl
          have b1 := cell_of_blkP hblk2 (j := 1) (u := .int .i64 (e0.op)) rfl
          have b2 := cell_of_blkP hblk2 (j := 2) (u := .int .i64 (e0.int)) rfl
          have b3 := cell_of_blkP hblk2 (j := 3) (u := .string (⟨#[99]⟩)) rfl
          have b4 := cell_of_blkP hblk2 (j := 4) (u := .bool (e0.at_)) rfl
          have b5 := cell_of_blkP hblk2 (j := 5) (u := .slice p0 N0 c0) rfl
          clear hbad hlen hbd hsl
          go_upto_region 27 with fail
          clear b0 b1 b2 b3 b4 b5
          have hpb := prW_below w2 w2.heap.size #[.int .i64 (e0.kind), .int .i64 (e0.op), .int .i64 (e0.int), .string (⟨#[99]⟩), .bool (e0.at_), .slice p0 N0 c0]
          have hpl := (prW_blk w2 #[.int .i64 (e0.kind), .int .i64 (e0.op), .int .i64 (e0.int), .string (⟨#[99]⟩), .bool (e0.at_), .slice p0 N0 c0]).2.2.2.2
          have hpp := prW_prog w2 (e := Tr.E.mk (e0.kind) (e0.op) (e0.int) (⟨#[99]⟩) (e0.at_) e0.args) HBD.out HSL.out
          obtain ⟨w3, hw3⟩ : ∃ q, q = prW w2 w2.heap.size #[.int .i64 (e0.kind), .int .i64 (e0.op), .int .i64 (e0.int), .string (⟨#[99]⟩), .bool (e0.at_), .slice p0 N0 c0] := ⟨_, rfl⟩
          obtain ⟨GN, hGN⟩ : ∃ q, w2.heap.size = q := ⟨_, rfl⟩
          have hpp : SlC w3 (.slice (some ⟨w2.heap.size + 1 + 1 + 1, 0, none⟩) 1 1) (Sy.printP (Tr.E.mk (e0.kind) (e0.op) (e0.int) (⟨#[99]⟩) (e0.at_) e0.args)) := by rw [hw3]; exact hpp
          rw [← hw3] at hpb hpl
          have hw4 := hw3
          unfold prW at hw4
          rw [← hw4]
          have hblk3 := (hpb.block w.heap.size (lt_of_block hblk2)).trans hblk2
          rw [hGN] at hpl hpp ⊢
          have HB3 := Lib.hid (below_next HB2.out hpb)
          have HBW3 := Lib.hid hpb
          have HPP := Lib.hid hpp
          have hez : SyEnv w3 := HEW.out.keep HB3.out
          have hs3 := HSL.out.keep hpb
          have K1 : Hid (∀ W, Below w3.heap.size w3 W → Calls Tryz.prog 13 #[.agg #[.int .i64 (e0.kind), .int .i64 (e0.op), .int .i64 (e0.int), .string (⟨#[99]⟩), .bool (e0.at_), .slice p0 N0 c0]] W fun r w' => r = .returned (.bool false) ∧ Below W.heap.size W w') := fun W hb => by
            have h := validExpr_any _ (Tr.E.mk (e0.kind) (e0.op) (e0.int) (⟨#[99]⟩) (e0.at_) e0.args) (.slice p0 N0 c0) W (Nat.le_refl _) (hez.syn.lex.keep hb) HBD.out (hs3.keep hb)
            rw [HX.out] at h
            exact h
          have K2 : Hid (∀ W, Below w3.heap.size w3 W → Calls Tryz.prog 15 #[.agg #[.int .i64 (e0.kind), .int .i64 (e0.op), .int .i64 (e0.int), .string (⟨#[99]⟩), .bool (e0.at_), .slice p0 N0 c0]] W fun r w' => r = .returned (.string ⟨#[]⟩) ∧ Below W.heap.size W w') := fun W hb => by
            have h := syExpr_any (Tr.E.mk (e0.kind) (e0.op) (e0.int) (⟨#[99]⟩) (e0.at_) e0.args) (.slice p0 N0 c0) W (hez.keep hb) HBD.out (hs3.keep hb) (Nat.le_trans HLN.out (by decide))
            rw [show Sy.exprText _ = [] by unfold Sy.exprText; rw [HX.out]; rfl] at h
            exact h
          have K3 : Hid (∀ W, Below w3.heap.size w3 W → Calls Tryz.prog 20 #[.agg #[.slice (some ⟨GN + 1 + 1 + 1, 0, none⟩) 1 1]] W fun r w' => r = .returned (.bool false) ∧ Below W.heap.size W w') := fun W hb => by
            have h := valid_any _ (Sy.printP (Tr.E.mk (e0.kind) (e0.op) (e0.int) (⟨#[99]⟩) (e0.at_) e0.args)) W (hez.syn.keep hb) (Sy.printP_fit _) (HPP.out.keep hb)
            rw [Sy.printP_bad HX.out] at h
            exact h
          have K4 : Hid (∀ W, Below w3.heap.size w3 W → Calls Tryz.prog 22 #[.agg #[.slice (some ⟨GN + 1 + 1 + 1, 0, none⟩) 1 1]] W fun r w' => r = .returned (.string ⟨#[]⟩) ∧ Below W.heap.size W w') := fun W hb => by
            have h := program_any _ (Sy.printP (Tr.E.mk (e0.kind) (e0.op) (e0.int) (⟨#[99]⟩) (e0.at_) e0.args)) W (hez.keep hb) (Sy.printP_fit _) (HPP.out.keep hb) (Sy.printP_deep _) (by rw [Sy.printP_len]; have := HLN.out; omega)
            rw [show Sy.programText _ = [] by unfold Sy.programText; rw [Sy.printP_bad HX.out]; rfl] at h
            exact h
          have HBL3 : Hid (∀ W, Below w3.heap.size w3 W → W.heap[w.heap.size]? = some (.cells #[.int .i64 (e0.kind), .int .i64 (e0.op), .int .i64 (e0.int), .string (⟨#[99]⟩), .bool (e0.at_), .slice p0 N0 c0] 24 (0, 0))) := fun W hb => (hb.block _ (lt_of_block hblk3)).trans hblk3
          have HPL3 : Hid (∀ W, Below w3.heap.size w3 W → W.heap[GN + 1 + 1 + 1 + 1]? = some (.cells #[.slice (some ⟨GN + 1 + 1 + 1, 0, none⟩) 1 1] 32 (0, 0))) := fun W hb => (hb.block _ (lt_of_block hpl)).trans hpl
          clear hpb hpl hpp hw3 hw4 hblk3 hez hs3 hGN hblk2
          have HR := Lib.hid (Below.refl w3.heap.size w3)
          have b0 := cell_of_blkP (HBL3.out _ HR.out) (j := 0) (u := .int .i64 (e0.kind)) rfl
          have b1 := cell_of_blkP (HBL3.out _ HR.out) (j := 1) (u := .int .i64 (e0.op)) rfl
          have b2 := cell_of_blkP (HBL3.out _ HR.out) (j := 2) (u := .int .i64 (e0.int)) rfl
          have b3 := cell_of_blkP (HBL3.out _ HR.out) (j := 3) (u := .string (⟨#[99]⟩)) rfl
          have b4 := cell_of_blkP (HBL3.out _ HR.out) (j := 4) (u := .bool (e0.at_)) rfl
          have b5 := cell_of_blkP (HBL3.out _ HR.out) (j := 5) (u := .slice p0 N0 c0) rfl
          go_wp2_with fail
          refine (K1.out _ HR.out).mono ?_
          rintro r wz ⟨rfl, hbz⟩
          have HR := Lib.hid (below_next HR.out hbz)
          clear hbz b0 b1 b2 b3 b4 b5
          have b0 := cell_of_blkP (HBL3.out _ HR.out) (j := 0) (u := .int .i64 (e0.kind)) rfl
          have b1 := cell_of_blkP (HBL3.out _ HR.out) (j := 1) (u := .int .i64 (e0.op)) rfl
          have b2 := cell_of_blkP (HBL3.out _ HR.out) (j := 2) (u := .int .i64 (e0.int)) rfl
          have b3 := cell_of_blkP (HBL3.out _ HR.out) (j := 3) (u := .string (⟨#[99]⟩)) rfl
          have b4 := cell_of_blkP (HBL3.out _ HR.out) (j := 4) (u := .bool (e0.at_)) rfl
          have b5 := cell_of_blkP (HBL3.out _ HR.out) (j := 5) (u := .slice p0 N0 c0) rfl
          go_wp2_with fail
          refine (K2.out _ HR.out).mono ?_
          rintro r wz ⟨rfl, hbz⟩
          have HR := Lib.hid (below_next HR.out hbz)
          clear hbz b0 b1 b2 b3 b4 b5
          have b0 := cell_of_blkP (HPL3.out _ HR.out) (j := 0) (u := .slice (some ⟨GN + 1 + 1 + 1, 0, none⟩) 1 1) rfl
          go_wp2_with fail
          refine (K3.out _ HR.out).mono ?_
          rintro r wz ⟨rfl, hbz⟩
          have HR := Lib.hid (below_next HR.out hbz)
          clear hbz b0
          have b0 := cell_of_blkP (HPL3.out _ HR.out) (j := 0) (u := .slice (some ⟨GN + 1 + 1 + 1, 0, none⟩) 1 1) rfl
          go_wp2_with fail
          refine (K4.out _ HR.out).mono ?_
          rintro r wz ⟨rfl, hbz⟩
          have HR := Lib.hid (below_next HR.out hbz)
          clear hbz b0
          go_wp2_with fail
          go_ret
          exact ⟨rfl, below_next HB3.out HR.out⟩
        · have hcc : Hid ((e0.kind == 5) = false) := beq_eq_false_iff_ne.2 hc
          have HCK := Lib.hid hc
          clear hc
          go_enter Tryz.func8, Tryz.ntmps8
          go_upto_region 1 with fail
          rw [← HW1.out]
          have HR := Lib.hid (Below.refl w1.heap.size w1)
          go_wp2_with fail
          refine (KA.out _ HR.out).mono ?_
          rintro r wy ⟨rfl, hby⟩
          have HR := Lib.hid (below_next HR.out hby)
          clear hby
          have d0_0 := ((HC.out _ HR.out) 0 _ rfl)
          have d0_1 := ((HC.out _ HR.out) 1 _ rfl)
          have d0_2 := ((HC.out _ HR.out) 2 _ rfl)
          have d0_3 := ((HC.out _ HR.out) 3 _ rfl)
          have d0_4 := ((HC.out _ HR.out) 4 _ rfl)
          have d0_5 := ((HC.out _ HR.out) 5 _ rfl)
          go_wp2_with fail
          refine (KF0.out _ HR.out).mono ?_
          rintro r wy ⟨rfl, hby⟩
          have HR := Lib.hid (below_next HR.out hby)
          clear hby d0_0 d0_1 d0_2 d0_3 d0_4 d0_5
          have d0_0 := ((HC.out _ HR.out) 0 _ rfl)
          have d0_1 := ((HC.out _ HR.out) 1 _ rfl)
          have d0_2 := ((HC.out _ HR.out) 2 _ rfl)
          have d0_3 := ((HC.out _ HR.out) 3 _ rfl)
          have d0_4 := ((HC.out _ HR.out) 4 _ rfl)
          have d0_5 := ((HC.out _ HR.out) 5 _ rfl)
          go_wp2_with fail
          refine (KV0.out _ HR.out).mono ?_
          rintro r wy ⟨rfl, hby⟩
          have HR := Lib.hid (below_next HR.out hby)
          clear hby d0_0 d0_1 d0_2 d0_3 d0_4 d0_5
          have HW := Lib.hid (below_next HB1.out HR.out)
          have hblk := (HR.out.block w.heap.size (lt_of_block HBLK.out)).trans HBLK.out
          have hf0 := blk_free hblk 0
          have hf1 := blk_free hblk 1
          have hf2 := blk_free hblk 2
          have hf3 := blk_free hblk 3
          have hf4 := blk_free hblk 4
          have hf5 := blk_free hblk 5
          have d0_0 := ((HC.out _ HR.out) 0 _ rfl)
          have d0_1 := ((HC.out _ HR.out) 1 _ rfl)
          have d0_2 := ((HC.out _ HR.out) 2 _ rfl)
          have d0_3 := ((HC.out _ HR.out) 3 _ rfl)
          have d0_4 := ((HC.out _ HR.out) 4 _ rfl)
          have d0_5 := ((HC.out _ HR.out) 5 _ rfl)
          have hcd := hcc.out
          go_upto_region 26 with fail
          clear hcd
          clear d0_0 d0_1 d0_2 d0_3 d0_4 d0_5 hf0 hf1 hf2 hf3 hf4 hf5
          have HB2 := Lib.hid (HW.out.grown (grown_setCell wy w.heap.size 4 (.bool true)) HW.out.size (fun k hk => by cases hk; exact Nat.le_refl _))
          have hblk2 := heap_set (j := 4) (.bool true) hblk
          obtain ⟨w2, hw2⟩ : ∃ q, q = wy.setCell ⟨w.heap.size, 4, none⟩ (.bool true) := ⟨_, rfl⟩
          rw [← hw2] at HB2 hblk2 ⊢
          have hblk2 : w2.heap[w.heap.size]? = some (.cells #[.int .i64 (e0.kind), .int .i64 (e0.op), .int .i64 (e0.int), .string (e0.name), .bool (true), .slice p0 N0 c0] 24 (0, 0)) := hblk2
          clear hblk hw2
          have hbad : Tr.validE (Tr.E.mk (e0.kind) (e0.op) (e0.int) (e0.name) (true) e0.args) = false := by have h := HBAD.out 4; rw [spoil_4, if_neg HCK.out] at h; exact h
          have hlen : (Sy.text (Tr.E.mk (e0.kind) (e0.op) (e0.int) (e0.name) (true) e0.args)).length ≤ 20000 := by have h := HSP.out 4; rw [spoil_4, if_neg HCK.out] at h; exact h
          have hbd : BdE (Tr.E.mk (e0.kind) (e0.op) (e0.int) (e0.name) (true) e0.args) := ⟨hbd0.kind, hbd0.op, hbd0.int, hbd0.name⟩
          have hsl : SlE w2 (.slice p0 N0 c0) (Tr.E.mk (e0.kind) (e0.op) (e0.int) (e0.name) (true) e0.args).args := HSW.out.keep HB2.out
          have HX := Lib.hid hbad
          have HLN := Lib.hid hlen
          have HBD := Lib.hid hbd
          have HSL := Lib.hid hsl
          have b0 := cell_of_blkP hblk2 (j := 0) (u := .int .i64 (e0.kind)) rfl
          have b1 := cell_of_blkP hblk2 (j := 1) (u := .int .i64 (e0.op)) rfl
          have b2 := cell_of_blkP hblk2 (j := 2) (u := .int .i64 (e0.int)) rfl
          have b3 := cell_of_blkP hblk2 (j := 3) (u := .string (e0.name)) rfl
          have b4 := cell_of_blkP hblk2 (j := 4) (u := .bool (true)) rfl
          have b5 := cell_of_blkP hblk2 (j := 5) (u := .slice p0 N0 c0) rfl
          clear hbad hlen hbd hsl
          go_upto_region 27 with fail
          clear b0 b1 b2 b3 b4 b5
          have hpb := prW_below w2 w2.heap.size #[.int .i64 (e0.kind), .int .i64 (e0.op), .int .i64 (e0.int), .string (e0.name), .bool (true), .slice p0 N0 c0]
          have hpl := (prW_blk w2 #[.int .i64 (e0.kind), .int .i64 (e0.op), .int .i64 (e0.int), .string (e0.name), .bool (true), .slice p0 N0 c0]).2.2.2.2
          have hpp := prW_prog w2 (e := Tr.E.mk (e0.kind) (e0.op) (e0.int) (e0.name) (true) e0.args) HBD.out HSL.out
          obtain ⟨w3, hw3⟩ : ∃ q, q = prW w2 w2.heap.size #[.int .i64 (e0.kind), .int .i64 (e0.op), .int .i64 (e0.int), .string (e0.name), .bool (true), .slice p0 N0 c0] := ⟨_, rfl⟩
          obtain ⟨GN, hGN⟩ : ∃ q, w2.heap.size = q := ⟨_, rfl⟩
          have hpp : SlC w3 (.slice (some ⟨w2.heap.size + 1 + 1 + 1, 0, none⟩) 1 1) (Sy.printP (Tr.E.mk (e0.kind) (e0.op) (e0.int) (e0.name) (true) e0.args)) := by rw [hw3]; exact hpp
          rw [← hw3] at hpb hpl
          have hw4 := hw3
          unfold prW at hw4
          rw [← hw4]
          have hblk3 := (hpb.block w.heap.size (lt_of_block hblk2)).trans hblk2
          rw [hGN] at hpl hpp ⊢
          have HB3 := Lib.hid (below_next HB2.out hpb)
          have HBW3 := Lib.hid hpb
          have HPP := Lib.hid hpp
          have hez : SyEnv w3 := HEW.out.keep HB3.out
          have hs3 := HSL.out.keep hpb
          have K1 : Hid (∀ W, Below w3.heap.size w3 W → Calls Tryz.prog 13 #[.agg #[.int .i64 (e0.kind), .int .i64 (e0.op), .int .i64 (e0.int), .string (e0.name), .bool (true), .slice p0 N0 c0]] W fun r w' => r = .returned (.bool false) ∧ Below W.heap.size W w') := fun W hb => by
            have h := validExpr_any _ (Tr.E.mk (e0.kind) (e0.op) (e0.int) (e0.name) (true) e0.args) (.slice p0 N0 c0) W (Nat.le_refl _) (hez.syn.lex.keep hb) HBD.out (hs3.keep hb)
            rw [HX.out] at h
            exact h
          have K2 : Hid (∀ W, Below w3.heap.size w3 W → Calls Tryz.prog 15 #[.agg #[.int .i64 (e0.kind), .int .i64 (e0.op), .int .i64 (e0.int), .string (e0.name), .bool (true), .slice p0 N0 c0]] W fun r w' => r = .returned (.string ⟨#[]⟩) ∧ Below W.heap.size W w') := fun W hb => by
            have h := syExpr_any (Tr.E.mk (e0.kind) (e0.op) (e0.int) (e0.name) (true) e0.args) (.slice p0 N0 c0) W (hez.keep hb) HBD.out (hs3.keep hb) (Nat.le_trans HLN.out (by decide))
            rw [show Sy.exprText _ = [] by unfold Sy.exprText; rw [HX.out]; rfl] at h
            exact h
          have K3 : Hid (∀ W, Below w3.heap.size w3 W → Calls Tryz.prog 20 #[.agg #[.slice (some ⟨GN + 1 + 1 + 1, 0, none⟩) 1 1]] W fun r w' => r = .returned (.bool false) ∧ Below W.heap.size W w') := fun W hb => by
            have h := valid_any _ (Sy.printP (Tr.E.mk (e0.kind) (e0.op) (e0.int) (e0.name) (true) e0.args)) W (hez.syn.keep hb) (Sy.printP_fit _) (HPP.out.keep hb)
            rw [Sy.printP_bad HX.out] at h
            exact h
          have K4 : Hid (∀ W, Below w3.heap.size w3 W → Calls Tryz.prog 22 #[.agg #[.slice (some ⟨GN + 1 + 1 + 1, 0, none⟩) 1 1]] W fun r w' => r = .returned (.string ⟨#[]⟩) ∧ Below W.heap.size W w') := fun W hb => by
            have h := program_any _ (Sy.printP (Tr.E.mk (e0.kind) (e0.op) (e0.int) (e0.name) (true) e0.args)) W (hez.keep hb) (Sy.printP_fit _) (HPP.out.keep hb) (Sy.printP_deep _) (by rw [Sy.printP_len]; have := HLN.out; omega)
            rw [show Sy.programText _ = [] by unfold Sy.programText; rw [Sy.printP_bad HX.out]; rfl] at h
            exact h
          have HBL3 : Hid (∀ W, Below w3.heap.size w3 W → W.heap[w.heap.size]? = some (.cells #[.int .i64 (e0.kind), .int .i64 (e0.op), .int .i64 (e0.int), .string (e0.name), .bool (true), .slice p0 N0 c0] 24 (0, 0))) := fun W hb => (hb.block _ (lt_of_block hblk3)).trans hblk3
          have HPL3 : Hid (∀ W, Below w3.heap.size w3 W → W.heap[GN + 1 + 1 + 1 + 1]? = some (.cells #[.slice (some ⟨GN + 1 + 1 + 1, 0, none⟩) 1 1] 32 (0, 0))) := fun W hb => (hb.block _ (lt_of_block hpl)).trans hpl
          clear hpb hpl hpp hw3 hw4 hblk3 hez hs3 hGN hblk2
          have HR := Lib.hid (Below.refl w3.heap.size w3)
          have b0 := cell_of_blkP (HBL3.out _ HR.out) (j := 0) (u := .int .i64 (e0.kind)) rfl
          have b1 := cell_of_blkP (HBL3.out _ HR.out) (j := 1) (u := .int .i64 (e0.op)) rfl
          have b2 := cell_of_blkP (HBL3.out _ HR.out) (j := 2) (u := .int .i64 (e0.int)) rfl
          have b3 := cell_of_blkP (HBL3.out _ HR.out) (j := 3) (u := .string (e0.name)) rfl
          have b4 := cell_of_blkP (HBL3.out _ HR.out) (j := 4) (u := .bool (true)) rfl
          have b5 := cell_of_blkP (HBL3.out _ HR.out) (j := 5) (u := .slice p0 N0 c0) rfl
          go_wp2_with fail
          refine (K1.out _ HR.out).mono ?_
          rintro r wz ⟨rfl, hbz⟩
          have HR := Lib.hid (below_next HR.out hbz)
          clear hbz b0 b1 b2 b3 b4 b5
          have b0 := cell_of_blkP (HBL3.out _ HR.out) (j := 0) (u := .int .i64 (e0.kind)) rfl
          have b1 := cell_of_blkP (HBL3.out _ HR.out) (j := 1) (u := .int .i64 (e0.op)) rfl
          have b2 := cell_of_blkP (HBL3.out _ HR.out) (j := 2) (u := .int .i64 (e0.int)) rfl
          have b3 := cell_of_blkP (HBL3.out _ HR.out) (j := 3) (u := .string (e0.name)) rfl
          have b4 := cell_of_blkP (HBL3.out _ HR.out) (j := 4) (u := .bool (true)) rfl
          have b5 := cell_of_blkP (HBL3.out _ HR.out) (j := 5) (u := .slice p0 N0 c0) rfl
          go_wp2_with fail
          refine (K2.out _ HR.out).mono ?_
          rintro r wz ⟨rfl, hbz⟩
          have HR := Lib.hid (below_next HR.out hbz)
          clear hbz b0 b1 b2 b3 b4 b5
          have b0 := cell_of_blkP (HPL3.out _ HR.out) (j := 0) (u := .slice (some ⟨GN + 1 + 1 + 1, 0, none⟩) 1 1) rfl
          go_wp2_with fail
          refine (K3.out _ HR.out).mono ?_
          rintro r wz ⟨rfl, hbz⟩
          have HR := Lib.hid (below_next HR.out hbz)
          clear hbz b0
          have b0 := cell_of_blkP (HPL3.out _ HR.out) (j := 0) (u := .slice (some ⟨GN + 1 + 1 + 1, 0, none⟩) 1 1) rfl
          go_wp2_with fail
          refine (K4.out _ HR.out).mono ?_
          rintro r wz ⟨rfl, hbz⟩
          have HR := Lib.hid (below_next HR.out hbz)
          clear hbz b0
          go_wp2_with fail
          go_ret
          exact ⟨rfl, below_next HB3.out HR.out⟩
      · by_cases hc : e0.kind = 5
        · have hcc : Hid ((e0.kind == 5) = true) := beq_iff_eq.2 hc
          have HCK := Lib.hid hc
          clear hc
          have hcd := hcc.out
          go_enter Tryz.func8, Tryz.ntmps8
          go_upto_region 1 with fail
          rw [← HW1.out]
          have HR := Lib.hid (Below.refl w1.heap.size w1)
          go_wp2_with fail
          refine (KA.out _ HR.out).mono ?_
          rintro r wy ⟨rfl, hby⟩
          have HR := Lib.hid (below_next HR.out hby)
          clear hby
          have d0_0 := ((HC.out _ HR.out) 0 _ rfl)
          have d0_1 := ((HC.out _ HR.out) 1 _ rfl)
          have d0_2 := ((HC.out _ HR.out) 2 _ rfl)
          have d0_3 := ((HC.out _ HR.out) 3 _ rfl)
          have d0_4 := ((HC.out _ HR.out) 4 _ rfl)
          have d0_5 := ((HC.out _ HR.out) 5 _ rfl)
          go_wp2_with fail
          refine (KF0.out _ HR.out).mono ?_
          rintro r wy ⟨rfl, hby⟩
          have HR := Lib.hid (below_next HR.out hby)
          clear hby d0_0 d0_1 d0_2 d0_3 d0_4 d0_5
          have d0_0 := ((HC.out _ HR.out) 0 _ rfl)
          have d0_1 := ((HC.out _ HR.out) 1 _ rfl)
          have d0_2 := ((HC.out _ HR.out) 2 _ rfl)
          have d0_3 := ((HC.out _ HR.out) 3 _ rfl)
          have d0_4 := ((HC.out _ HR.out) 4 _ rfl)
          have d0_5 := ((HC.out _ HR.out) 5 _ rfl)
          go_wp2_with fail
          refine (KV0.out _ HR.out).mono ?_
          rintro r wy ⟨rfl, hby⟩
          have HR := Lib.hid (below_next HR.out hby)
          clear hby d0_0 d0_1 d0_2 d0_3 d0_4 d0_5
          have HW := Lib.hid (below_next HB1.out HR.out)
          have hblk := (HR.out.block w.heap.size (lt_of_block HBLK.out)).trans HBLK.out
          have hf0 := blk_free hblk 0
          have hf1 := blk_free hblk 1
          have hf2 := blk_free hblk 2
          have hf3 := blk_free hblk 3
          have hf4 := blk_free hblk 4
          have hf5 := blk_free hblk 5
          have d0_0 := ((HC.out _ HR.out) 0 _ rfl)
          have d0_1 := ((HC.out _ HR.out) 1 _ rfl)
          have d0_2 := ((HC.out _ HR.out) 2 _ rfl)
          have d0_3 := ((HC.out _ HR.out) 3 _ rfl)
          have d0_4 := ((HC.out _ HR.out) 4 _ rfl)
          have d0_5 := ((HC.out _ HR.out) 5 _ rfl)
          have hbe := below_box wy (.cells #[] 24)
          have hgl := lt_of_block hblk
          have HSR2 := Lib.hid ((HSRC.out.keep HW.out).keep hbe)
          have hbC := cell_keep' hbe d0_5
          have HBLK2 := Lib.hid hblk
          clear hblk
          go_upto_region 26 with (at_builtin; first
            | (refine wpList_append_src eCells 6 eCells_len rfl _ _ 22 rfl wy.heap.size 24 i0 (.agg #[.int .i64 0, .int .i64 0, .int .i64 0, .string ⟨#[]⟩, .bool false, .slice none 0 0]) 72 Tryz.underlying22 hinf hz0 hz1 hz2 rfl (by decide) _ _ rows [badE] rfl rfl (HO7.out.alloc _) HL7.out (eCells_one (w := wy) (fun x hx => by have := hx; simp at this; subst this; exact badE_read _)) (by rw [HRN.out]; unfold maxLen; simp; omega) (by rw [HRN.out]; simp; omega) (by have := HB7.out.size; simp <;> omega) ?_
               intro v8 w8 ho8 hg8
               have HO8 := Lib.hid ho8
               have HB8 : Hid (Below wy.heap.size wy w8) := Lib.hid ((HB7.out.alloc HB7.out.size _).grown hg8 (by have := HB7.out.size; simp <;> omega) fun q hq => (own_ge HO7.out hq).1)
               clear ho8 hg8
               obtain ⟨p8, k8, rfl⟩ := own_form HO8.out
               obtain ⟨N8, hN8⟩ : ∃ q, (rows ++ [badE]).length = q := ⟨_, rfl⟩
               rw [hN8]
               have HN8 := Lib.hid hN8
               have hblk8 := (HB8.out.block w.heap.size (lt_of_block HBLK2.out)).trans HBLK2.out
               have hf8 := blk_free hblk8 5
               have c8 := cell_of_blkP hblk8 (j := 5) (u := .slice p0 N0 c0) rfl
               have hz8 := lt_of_block hblk8
               have HBLK8 := Lib.hid hblk8
               clear hN8 hblk8)
            | (refine wpList_append_src eCells 6 eCells_len rfl _ _ 22 rfl wy.heap.size 24 i0 (.agg #[.int .i64 0, .int .i64 0, .int .i64 0, .string ⟨#[]⟩, .bool false, .slice none 0 0]) 72 Tryz.underlying22 hinf hz0 hz1 hz2 rfl (by decide) _ _ [] rows rfl rfl (own_empty wy _ 6) HSR2.out (eCells_one HREAD.out) (by rw [HRN.out]; unfold maxLen; simp; omega) (by rw [HRN.out]; simp; omega) (by simp) ?_
               intro v7 w7 ho7 hg7
               rw [List.nil_append] at ho7
               have HO7 := Lib.hid ho7
               have HB7 : Hid (Below wy.heap.size wy w7) := Lib.hid ((below_box wy (.cells #[] 24)).grown hg7 (by simp) fun q hq => by cases hq; exact Nat.le_refl _)
               have HL7 := Lib.hid (SrcAt.lits (f := eCells) w7 [badE] 24 #[.int .i64 (-1), .int .i64 0, .int .i64 0, .string ⟨#[]⟩, .bool false, .slice none 0 0] rfl 1 rfl 1)
               have hblk7 := (HB7.out.block w.heap.size (lt_of_block HBLK2.out)).trans HBLK2.out
               have hz7 := lt_of_block hblk7
               clear ho7 hg7 hbC hbe hblk7 d0_0 d0_1 d0_2 d0_3 d0_4 d0_5))
          clear hf0 hf1 hf2 hf3 hf4 hf5 hf8 c8 hz8 hz7 hgl
          have HB8 := Lib.hid (below_next HW.out HB8.out)
          have HB2 := Lib.hid (HB8.out.grown (grown_setCell w8 w.heap.size 5 (.slice p8 N8 k8)) HB8.out.size (fun k hk => by cases hk; exact Nat.le_refl _))
          have hblk2 := heap_set (j := 5) (.slice p8 N8 k8) HBLK8.out
          have HO9 := Lib.hid (ownsRow_setCell_below HO8.out (a := ⟨w.heap.size, 5, none⟩) (show w.heap.size < wy.heap.size from lt_of_block HBLK2.out) (.slice p8 N8 k8))
          obtain ⟨w2, hw2⟩ : ∃ q, q = w8.setCell ⟨w.heap.size, 5, none⟩ (.slice p8 N8 k8) := ⟨_, rfl⟩
          rw [← hw2] at HB2 hblk2 HO9 ⊢
          have hblk2 : w2.heap[w.heap.size]? = some (.cells #[.int .i64 (e0.kind), .int .i64 (e0.op), .int .i64 (e0.int), .string (e0.name), .bool (e0.at_), .slice p8 N8 k8] 24 (0, 0)) := hblk2
          have HRD8 : Hid (∀ x ∈ rows ++ [badE], ReadET w2 x) := by
            intro x hx
            rcases List.mem_append.1 hx with hx | hx
            · exact (HREAD.out x hx).keep HB2.out
            · obtain rfl : x = badE := by simpa using hx
              exact badE_read _
          have hs8 := slE_own HO9.out HRD8.out
          rw [List.map_append, HROWS.out, HN8.out] at hs8
          have HS9 : Hid (SlE w2 (.slice p8 N8 k8) (e0.args ++ [badE.1])) := hs8
          clear hw2 HB7 HO7 HL7 HSR2 HBLK2 HBLK8 HB8 HO8 HO9 HRD8 HN8 hs8
          have hbad : Tr.validE (Tr.E.mk (e0.kind) (e0.op) (e0.int) (e0.name) (e0.at_) (e0.args ++ [badE.1])) = false := by have h := HBAD.out 5; rw [spoil_5, if_pos HCK.out] at h; exact h
          have hlen : (Sy.text (Tr.E.mk (e0.kind) (e0.op) (e0.int) (e0.name) (e0.at_) (e0.args ++ [badE.1]))).length ≤ 20000 := by have h := HSP.out 5; rw [spoil_5, if_pos HCK.out] at h; exact h
          have hbd : BdE (Tr.E.mk (e0.kind) (e0.op) (e0.int) (e0.name) (e0.at_) (e0.args ++ [badE.1])) := ⟨hbd0.kind, hbd0.op, hbd0.int, hbd0.name⟩
          have hsl : SlE w2 (.slice p8 N8 k8) (Tr.E.mk (e0.kind) (e0.op) (e0.int) (e0.name) (e0.at_) (e0.args ++ [badE.1])).args := HS9.out
          have HX := Lib.hid hbad
          have HLN := Lib.hid hlen
          have HBD := Lib.hid hbd
          have HSL := Lib.hid hsl
          have b0 := cell_of_blkP hblk2 (j := 0) (u := .int .i64 (e0.kind)) rfl
          have b1 := cell_of_blkP hblk2 (j := 1) (u := .int .i64 (e0.op)) rfl
          have b2 := cell_of_blkP hblk2 (j := 2) (u := .int .i64 (e0.int)) rfl
          have b3 := cell_of_blkP hblk2 (j := 3) (u := .string (e0.name)) rfl
          have b4 := cell_of_blkP hblk2 (j := 4) (u := .bool (e0.at_)) rfl
          have b5 := cell_of_blkP hblk2 (j := 5) (u := .slice p8 N8 k8) rfl
          clear hbad hlen hbd hsl
          go_upto_region 27 with fail
          clear b0 b1 b2 b3 b4 b5
          have hpb := prW_below w2 w2.heap.size #[.int .i64 (e0.kind), .int .i64 (e0.op), .int .i64 (e0.int), .string (e0.name), .bool (e0.at_), .slice p8 N8 k8]
          have hpl := (prW_blk w2 #[.int .i64 (e0.kind), .int .i64 (e0.op), .int .i64 (e0.int), .string (e0.name), .bool (e0.at_), .slice p8 N8 k8]).2.2.2.2
          have hpp := prW_prog w2 (e := Tr.E.mk (e0.kind) (e0.op) (e0.int) (e0.name) (e0.at_) (e0.args ++ [badE.1])) HBD.out HSL.out
          obtain ⟨w3, hw3⟩ : ∃ q, q = prW w2 w2.heap.size #[.int .i64 (e0.kind), .int .i64 (e0.op), .int .i64 (e0.int), .string (e0.name), .bool (e0.at_), .slice p8 N8 k8] := ⟨_, rfl⟩
          obtain ⟨GN, hGN⟩ : ∃ q, w2.heap.size = q := ⟨_, rfl⟩
          have hpp : SlC w3 (.slice (some ⟨w2.heap.size + 1 + 1 + 1, 0, none⟩) 1 1) (Sy.printP (Tr.E.mk (e0.kind) (e0.op) (e0.int) (e0.name) (e0.at_) (e0.args ++ [badE.1]))) := by rw [hw3]; exact hpp
          rw [← hw3] at hpb hpl
          have hw4 := hw3
          unfold prW at hw4
          rw [← hw4]
          have hblk3 := (hpb.block w.heap.size (lt_of_block hblk2)).trans hblk2
          rw [hGN] at hpl hpp ⊢
          have HB3 := Lib.hid (below_next HB2.out hpb)
          have HBW3 := Lib.hid hpb
          have HPP := Lib.hid hpp
          have hez : SyEnv w3 := HEW.out.keep HB3.out
          have hs3 := HSL.out.keep hpb
          have K1 : Hid (∀ W, Below w3.heap.size w3 W → Calls Tryz.prog 13 #[.agg #[.int .i64 (e0.kind), .int .i64 (e0.op), .int .i64 (e0.int), .string (e0.name), .bool (e0.at_), .slice p8 N8 k8]] W fun r w' => r = .returned (.bool false) ∧ Below W.heap.size W w') := fun W hb => by
            have h := validExpr_any _ (Tr.E.mk (e0.kind) (e0.op) (e0.int) (e0.name) (e0.at_) (e0.args ++ [badE.1])) (.slice p8 N8 k8) W (Nat.le_refl _) (hez.syn.lex.keep hb) HBD.out (hs3.keep hb)
            rw [HX.out] at h
            exact h
          have K2 : Hid (∀ W, Below w3.heap.size w3 W → Calls Tryz.prog 15 #[.agg #[.int .i64 (e0.kind), .int .i64 (e0.op), .int .i64 (e0.int), .string (e0.name), .bool (e0.at_), .slice p8 N8 k8]] W fun r w' => r = .returned (.string ⟨#[]⟩) ∧ Below W.heap.size W w') := fun W hb => by
            have h := syExpr_any (Tr.E.mk (e0.kind) (e0.op) (e0.int) (e0.name) (e0.at_) (e0.args ++ [badE.1])) (.slice p8 N8 k8) W (hez.keep hb) HBD.out (hs3.keep hb) (Nat.le_trans HLN.out (by decide))
            rw [show Sy.exprText _ = [] by unfold Sy.exprText; rw [HX.out]; rfl] at h
            exact h
          have K3 : Hid (∀ W, Below w3.heap.size w3 W → Calls Tryz.prog 20 #[.agg #[.slice (some ⟨GN + 1 + 1 + 1, 0, none⟩) 1 1]] W fun r w' => r = .returned (.bool false) ∧ Below W.heap.size W w') := fun W hb => by
            have h := valid_any _ (Sy.printP (Tr.E.mk (e0.kind) (e0.op) (e0.int) (e0.name) (e0.at_) (e0.args ++ [badE.1]))) W (hez.syn.keep hb) (Sy.printP_fit _) (HPP.out.keep hb)
            rw [Sy.printP_bad HX.out] at h
            exact h
          have K4 : Hid (∀ W, Below w3.heap.size w3 W → Calls Tryz.prog 22 #[.agg #[.slice (some ⟨GN + 1 + 1 + 1, 0, none⟩) 1 1]] W fun r w' => r = .returned (.string ⟨#[]⟩) ∧ Below W.heap.size W w') := fun W hb => by
            have h := program_any _ (Sy.printP (Tr.E.mk (e0.kind) (e0.op) (e0.int) (e0.name) (e0.at_) (e0.args ++ [badE.1]))) W (hez.keep hb) (Sy.printP_fit _) (HPP.out.keep hb) (Sy.printP_deep _) (by rw [Sy.printP_len]; have := HLN.out; omega)
            rw [show Sy.programText _ = [] by unfold Sy.programText; rw [Sy.printP_bad HX.out]; rfl] at h
            exact h
          have HBL3 : Hid (∀ W, Below w3.heap.size w3 W → W.heap[w.heap.size]? = some (.cells #[.int .i64 (e0.kind), .int .i64 (e0.op), .int .i64 (e0.int), .string (e0.name), .bool (e0.at_), .slice p8 N8 k8] 24 (0, 0))) := fun W hb => (hb.block _ (lt_of_block hblk3)).trans hblk3
          have HPL3 : Hid (∀ W, Below w3.heap.size w3 W → W.heap[GN + 1 + 1 + 1 + 1]? = some (.cells #[.slice (some ⟨GN + 1 + 1 + 1, 0, none⟩) 1 1] 32 (0, 0))) := fun W hb => (hb.block _ (lt_of_block hpl)).trans hpl
          clear hpb hpl hpp hw3 hw4 hblk3 hez hs3 hGN hblk2
          have HR := Lib.hid (Below.refl w3.heap.size w3)
          have b0 := cell_of_blkP (HBL3.out _ HR.out) (j := 0) (u := .int .i64 (e0.kind)) rfl
          have b1 := cell_of_blkP (HBL3.out _ HR.out) (j := 1) (u := .int .i64 (e0.op)) rfl
          have b2 := cell_of_blkP (HBL3.out _ HR.out) (j := 2) (u := .int .i64 (e0.int)) rfl
          have b3 := cell_of_blkP (HBL3.out _ HR.out) (j := 3) (u := .string (e0.name)) rfl
          have b4 := cell_of_blkP (HBL3.out _ HR.out) (j := 4) (u := .bool (e0.at_)) rfl
          have b5 := cell_of_blkP (HBL3.out _ HR.out) (j := 5) (u := .slice p8 N8 k8) rfl
          go_wp2_with fail
          refine (K1.out _ HR.out).mono ?_
          rintro r wz ⟨rfl, hbz⟩
          have HR := Lib.hid (below_next HR.out hbz)
          clear hbz b0 b1 b2 b3 b4 b5
          have b0 := cell_of_blkP (HBL3.out _ HR.out) (j := 0) (u := .int .i64 (e0.kind)) rfl
          have b1 := cell_of_blkP (HBL3.out _ HR.out) (j := 1) (u := .int .i64 (e0.op)) rfl
          have b2 := cell_of_blkP (HBL3.out _ HR.out) (j := 2) (u := .int .i64 (e0.int)) rfl
          have b3 := cell_of_blkP (HBL3.out _ HR.out) (j := 3) (u := .string (e0.name)) rfl
          have b4 := cell_of_blkP (HBL3.out _ HR.out) (j := 4) (u := .bool (e0.at_)) rfl
          have b5 := cell_of_blkP (HBL3.out _ HR.out) (j := 5) (u := .slice p8 N8 k8) rfl
          go_wp2_with fail
          refine (K2.out _ HR.out).mono ?_
          rintro r wz ⟨rfl, hbz⟩
          have HR := Lib.hid (below_next HR.out hbz)
          clear hbz b0 b1 b2 b3 b4 b5
          have b0 := cell_of_blkP (HPL3.out _ HR.out) (j := 0) (u := .slice (some ⟨GN + 1 + 1 + 1, 0, none⟩) 1 1) rfl
          go_wp2_with fail
          refine (K3.out _ HR.out).mono ?_
          rintro r wz ⟨rfl, hbz⟩
          have HR := Lib.hid (below_next HR.out hbz)
          clear hbz b0
          have b0 := cell_of_blkP (HPL3.out _ HR.out) (j := 0) (u := .slice (some ⟨GN + 1 + 1 + 1, 0, none⟩) 1 1) rfl
          go_wp2_with fail
          refine (K4.out _ HR.out).mono ?_
          rintro r wz ⟨rfl, hbz⟩
          have HR := Lib.hid (below_next HR.out hbz)
          clear hbz b0
          go_wp2_with fail
          go_ret
          exact ⟨rfl, below_next HB3.out HR.out⟩
        · have hcc : Hid ((e0.kind == 5) = false) := beq_eq_false_iff_ne.2 hc
          have HCK := Lib.hid hc
          clear hc
          have hcd := hcc.out
          go_enter Tryz.func8, Tryz.ntmps8
          go_upto_region 1 with fail
          rw [← HW1.out]
          have HR := Lib.hid (Below.refl w1.heap.size w1)
          go_wp2_with fail
          refine (KA.out _ HR.out).mono ?_
          rintro r wy ⟨rfl, hby⟩
          have HR := Lib.hid (below_next HR.out hby)
          clear hby
          have d0_0 := ((HC.out _ HR.out) 0 _ rfl)
          have d0_1 := ((HC.out _ HR.out) 1 _ rfl)
          have d0_2 := ((HC.out _ HR.out) 2 _ rfl)
          have d0_3 := ((HC.out _ HR.out) 3 _ rfl)
          have d0_4 := ((HC.out _ HR.out) 4 _ rfl)
          have d0_5 := ((HC.out _ HR.out) 5 _ rfl)
          go_wp2_with fail
          refine (KF0.out _ HR.out).mono ?_
          rintro r wy ⟨rfl, hby⟩
          have HR := Lib.hid (below_next HR.out hby)
          clear hby d0_0 d0_1 d0_2 d0_3 d0_4 d0_5
          have d0_0 := ((HC.out _ HR.out) 0 _ rfl)
          have d0_1 := ((HC.out _ HR.out) 1 _ rfl)
          have d0_2 := ((HC.out _ HR.out) 2 _ rfl)
          have d0_3 := ((HC.out _ HR.out) 3 _ rfl)
          have d0_4 := ((HC.out _ HR.out) 4 _ rfl)
          have d0_5 := ((HC.out _ HR.out) 5 _ rfl)
          go_wp2_with fail
          refine (KV0.out _ HR.out).mono ?_
          rintro r wy ⟨rfl, hby⟩
          have HR := Lib.hid (below_next HR.out hby)
          clear hby d0_0 d0_1 d0_2 d0_3 d0_4 d0_5
          have HW := Lib.hid (below_next HB1.out HR.out)
          have hblk := (HR.out.block w.heap.size (lt_of_block HBLK.out)).trans HBLK.out
          have hf0 := blk_free hblk 0
          have hf1 := blk_free hblk 1
          have hf2 := blk_free hblk 2
          have hf3 := blk_free hblk 3
          have hf4 := blk_free hblk 4
          have hf5 := blk_free hblk 5
          have d0_0 := ((HC.out _ HR.out) 0 _ rfl)
          have d0_1 := ((HC.out _ HR.out) 1 _ rfl)
          have d0_2 := ((HC.out _ HR.out) 2 _ rfl)
          have d0_3 := ((HC.out _ HR.out) 3 _ rfl)
          have d0_4 := ((HC.out _ HR.out) 4 _ rfl)
          have d0_5 := ((HC.out _ HR.out) 5 _ rfl)
          have hbe := below_box wy (.cells #[] 24)
          have hgl := lt_of_block hblk
          have HSR2 := Lib.hid ((HSRC.out.keep HW.out).keep hbe)
          have hbC := cell_keep' hbe d0_5
          have HBLK2 := Lib.hid hblk
          clear hblk
          go_upto_region 26 with (at_builtin; first
            | (refine wpList_append_src eCells 6 eCells_len rfl _ _ 22 rfl wy.heap.size 24 i0 (.agg #[.int .i64 0, .int .i64 0, .int .i64 0, .string ⟨#[]⟩, .bool false, .slice none 0 0]) 72 Tryz.underlying22 hinf hz0 hz1 hz2 rfl (by decide) _ _ rows [zeroE, zeroE] rfl rfl (HO7.out.alloc _) HL7.out (eCells_one (w := wy) (fun x hx => by have := hx; simp at this; subst this; exact zeroE_read _)) (by rw [HRN.out]; unfold maxLen; simp; omega) (by rw [HRN.out]; simp; omega) (by have := HB7.out.size; simp <;> omega) ?_
               intro v8 w8 ho8 hg8
               have HO8 := Lib.hid ho8
               have HB8 : Hid (Below wy.heap.size wy w8) := Lib.hid ((HB7.out.alloc HB7.out.size _).grown hg8 (by have := HB7.out.size; simp <;> omega) fun q hq => (own_ge HO7.out hq).1)
               clear ho8 hg8
               obtain ⟨p8, k8, rfl⟩ := own_form HO8.out
               obtain ⟨N8, hN8⟩ : ∃ q, (rows ++ [zeroE, zeroE]).length = q := ⟨_, rfl⟩
               rw [hN8]
               have HN8 := Lib.hid hN8
               have hblk8 := (HB8.out.block w.heap.size (lt_of_block HBLK2.out)).trans HBLK2.out
               have hf8 := blk_free hblk8 5
               have c8 := cell_of_blkP hblk8 (j := 5) (u := .slice p0 N0 c0) rfl
               have hz8 := lt_of_block hblk8
               have HBLK8 := Lib.hid hblk8
               clear hN8 hblk8)
            | (refine wpList_append_src eCells 6 eCells_len rfl _ _ 22 rfl wy.heap.size 24 i0 (.agg #[.int .i64 0, .int .i64 0, .int .i64 0, .string ⟨#[]⟩, .bool false, .slice none 0 0]) 72 Tryz.underlying22 hinf hz0 hz1 hz2 rfl (by decide) _ _ [] rows rfl rfl (own_empty wy _ 6) HSR2.out (eCells_one HREAD.out) (by rw [HRN.out]; unfold maxLen; simp; omega) (by rw [HRN.out]; simp; omega) (by simp) ?_
               intro v7 w7 ho7 hg7
               rw [List.nil_append] at ho7
               have HO7 := Lib.hid ho7
               have HB7 : Hid (Below wy.heap.size wy w7) := Lib.hid ((below_box wy (.cells #[] 24)).grown hg7 (by simp) fun q hq => by cases hq; exact Nat.le_refl _)
               have HL7 := Lib.hid (SrcAt.lits (f := eCells) w7 [zeroE, zeroE] 24 #[.int .i64 0, .int .i64 0, .int .i64 0, .string ⟨#[]⟩, .bool false, .slice none 0 0, .int .i64 0, .int .i64 0, .int .i64 0, .string ⟨#[]⟩, .bool false, .slice none 0 0] rfl 2 rfl 2)
               have hblk7 := (HB7.out.block w.heap.size (lt_of_block HBLK2.out)).trans HBLK2.out
               have hz7 := lt_of_block hblk7
               clear ho7 hg7 hbC hbe hblk7 d0_0 d0_1 d0_2 d0_3 d0_4 d0_5))
          clear hf0 hf1 hf2 hf3 hf4 hf5 hf8 c8 hz8 hz7 hgl
          have HB8 := Lib.hid (below_next HW.out HB8.out)
          have HB2 := Lib.hid (HB8.out.grown (grown_setCell w8 w.heap.size 5 (.slice p8 N8 k8)) HB8.out.size (fun k hk => by cases hk; exact Nat.le_refl _))
          have hblk2 := heap_set (j := 5) (.slice p8 N8 k8) HBLK8.out
          have HO9 := Lib.hid (ownsRow_setCell_below HO8.out (a := ⟨w.heap.size, 5, none⟩) (show w.heap.size < wy.heap.size from lt_of_block HBLK2.out) (.slice p8 N8 k8))
          obtain ⟨w2, hw2⟩ : ∃ q, q = w8.setCell ⟨w.heap.size, 5, none⟩ (.slice p8 N8 k8) := ⟨_, rfl⟩
          rw [← hw2] at HB2 hblk2 HO9 ⊢
          have hblk2 : w2.heap[w.heap.size]? = some (.cells #[.int .i64 (e0.kind), .int .i64 (e0.op), .int .i64 (e0.int), .string (e0.name), .bool (e0.at_), .slice p8 N8 k8] 24 (0, 0)) := hblk2
          have HRD8 : Hid (∀ x ∈ rows ++ [zeroE, zeroE], ReadET w2 x) := by
            intro x hx
            rcases List.mem_append.1 hx with hx | hx
            · exact (HREAD.out x hx).keep HB2.out
            · obtain rfl : x = zeroE := by simpa using hx
              exact zeroE_read _
          have hs8 := slE_own HO9.out HRD8.out
          rw [List.map_append, HROWS.out, HN8.out] at hs8
          have HS9 : Hid (SlE w2 (.slice p8 N8 k8) (e0.args ++ [zeroE.1, zeroE.1])) := hs8
          clear hw2 HB7 HO7 HL7 HSR2 HBLK2 HBLK8 HB8 HO8 HO9 HRD8 HN8 hs8
          have hbad : Tr.validE (Tr.E.mk (e0.kind) (e0.op) (e0.int) (e0.name) (e0.at_) (e0.args ++ [zeroE.1, zeroE.1])) = false := by have h := HBAD.out 5; rw [spoil_5, if_neg HCK.out] at h; exact h
          have hlen : (Sy.text (Tr.E.mk (e0.kind) (e0.op) (e0.int) (e0.name) (e0.at_) (e0.args ++ [zeroE.1, zeroE.1]))).length ≤ 20000 := by have h := HSP.out 5; rw [spoil_5, if_neg HCK.out] at h; exact h
          have hbd : BdE (Tr.E.mk (e0.kind) (e0.op) (e0.int) (e0.name) (e0.at_) (e0.args ++ [zeroE.1, zeroE.1])) := ⟨hbd0.kind, hbd0.op, hbd0.int, hbd0.name⟩
          have hsl : SlE w2 (.slice p8 N8 k8) (Tr.E.mk (e0.kind) (e0.op) (e0.int) (e0.name) (e0.at_) (e0.args ++ [zeroE.1, zeroE.1])).args := HS9.out
          have HX := Lib.hid hbad
          have HLN := Lib.hid hlen
          have HBD := Lib.hid hbd
          have HSL := Lib.hid hsl
          have b0 := cell_of_blkP hblk2 (j := 0) (u := .int .i64 (e0.kind)) rfl
          have b1 := cell_of_blkP hblk2 (j := 1) (u := .int .i64 (e0.op)) rfl
          have b2 := cell_of_blkP hblk2 (j := 2) (u := .int .i64 (e0.int)) rfl
          have b3 := cell_of_blkP hblk2 (j := 3) (u := .string (e0.name)) rfl
          have b4 := cell_of_blkP hblk2 (j := 4) (u := .bool (e0.at_)) rfl
          have b5 := cell_of_blkP hblk2 (j := 5) (u := .slice p8 N8 k8) rfl
          clear hbad hlen hbd hsl
          go_upto_region 27 with fail
          clear b0 b1 b2 b3 b4 b5
          have hpb := prW_below w2 w2.heap.size #[.int .i64 (e0.kind), .int .i64 (e0.op), .int .i64 (e0.int), .string (e0.name), .bool (e0.at_), .slice p8 N8 k8]
          have hpl := (prW_blk w2 #[.int .i64 (e0.kind), .int .i64 (e0.op), .int .i64 (e0.int), .string (e0.name), .bool (e0.at_), .slice p8 N8 k8]).2.2.2.2
          have hpp := prW_prog w2 (e := Tr.E.mk (e0.kind) (e0.op) (e0.int) (e0.name) (e0.at_) (e0.args ++ [zeroE.1, zeroE.1])) HBD.out HSL.out
          obtain ⟨w3, hw3⟩ : ∃ q, q = prW w2 w2.heap.size #[.int .i64 (e0.kind), .int .i64 (e0.op), .int .i64 (e0.int), .string (e0.name), .bool (e0.at_), .slice p8 N8 k8] := ⟨_, rfl⟩
          obtain ⟨GN, hGN⟩ : ∃ q, w2.heap.size = q := ⟨_, rfl⟩
          have hpp : SlC w3 (.slice (some ⟨w2.heap.size + 1 + 1 + 1, 0, none⟩) 1 1) (Sy.printP (Tr.E.mk (e0.kind) (e0.op) (e0.int) (e0.name) (e0.at_) (e0.args ++ [zeroE.1, zeroE.1]))) := by rw [hw3]; exact hpp
          rw [← hw3] at hpb hpl
          have hw4 := hw3
          unfold prW at hw4
          rw [← hw4]
          have hblk3 := (hpb.block w.heap.size (lt_of_block hblk2)).trans hblk2
          rw [hGN] at hpl hpp ⊢
          have HB3 := Lib.hid (below_next HB2.out hpb)
          have HBW3 := Lib.hid hpb
          have HPP := Lib.hid hpp
          have hez : SyEnv w3 := HEW.out.keep HB3.out
          have hs3 := HSL.out.keep hpb
          have K1 : Hid (∀ W, Below w3.heap.size w3 W → Calls Tryz.prog 13 #[.agg #[.int .i64 (e0.kind), .int .i64 (e0.op), .int .i64 (e0.int), .string (e0.name), .bool (e0.at_), .slice p8 N8 k8]] W fun r w' => r = .returned (.bool false) ∧ Below W.heap.size W w') := fun W hb => by
            have h := validExpr_any _ (Tr.E.mk (e0.kind) (e0.op) (e0.int) (e0.name) (e0.at_) (e0.args ++ [zeroE.1, zeroE.1])) (.slice p8 N8 k8) W (Nat.le_refl _) (hez.syn.lex.keep hb) HBD.out (hs3.keep hb)
            rw [HX.out] at h
            exact h
          have K2 : Hid (∀ W, Below w3.heap.size w3 W → Calls Tryz.prog 15 #[.agg #[.int .i64 (e0.kind), .int .i64 (e0.op), .int .i64 (e0.int), .string (e0.name), .bool (e0.at_), .slice p8 N8 k8]] W fun r w' => r = .returned (.string ⟨#[]⟩) ∧ Below W.heap.size W w') := fun W hb => by
            have h := syExpr_any (Tr.E.mk (e0.kind) (e0.op) (e0.int) (e0.name) (e0.at_) (e0.args ++ [zeroE.1, zeroE.1])) (.slice p8 N8 k8) W (hez.keep hb) HBD.out (hs3.keep hb) (Nat.le_trans HLN.out (by decide))
            rw [show Sy.exprText _ = [] by unfold Sy.exprText; rw [HX.out]; rfl] at h
            exact h
          have K3 : Hid (∀ W, Below w3.heap.size w3 W → Calls Tryz.prog 20 #[.agg #[.slice (some ⟨GN + 1 + 1 + 1, 0, none⟩) 1 1]] W fun r w' => r = .returned (.bool false) ∧ Below W.heap.size W w') := fun W hb => by
            have h := valid_any _ (Sy.printP (Tr.E.mk (e0.kind) (e0.op) (e0.int) (e0.name) (e0.at_) (e0.args ++ [zeroE.1, zeroE.1]))) W (hez.syn.keep hb) (Sy.printP_fit _) (HPP.out.keep hb)
            rw [Sy.printP_bad HX.out] at h
            exact h
          have K4 : Hid (∀ W, Below w3.heap.size w3 W → Calls Tryz.prog 22 #[.agg #[.slice (some ⟨GN + 1 + 1 + 1, 0, none⟩) 1 1]] W fun r w' => r = .returned (.string ⟨#[]⟩) ∧ Below W.heap.size W w') := fun W hb => by
            have h := program_any _ (Sy.printP (Tr.E.mk (e0.kind) (e0.op) (e0.int) (e0.name) (e0.at_) (e0.args ++ [zeroE.1, zeroE.1]))) W (hez.keep hb) (Sy.printP_fit _) (HPP.out.keep hb) (Sy.printP_deep _) (by rw [Sy.printP_len]; have := HLN.out; omega)
            rw [show Sy.programText _ = [] by unfold Sy.programText; rw [Sy.printP_bad HX.out]; rfl] at h
            exact h
          have HBL3 : Hid (∀ W, Below w3.heap.size w3 W → W.heap[w.heap.size]? = some (.cells #[.int .i64 (e0.kind), .int .i64 (e0.op), .int .i64 (e0.int), .string (e0.name), .bool (e0.at_), .slice p8 N8 k8] 24 (0, 0))) := fun W hb => (hb.block _ (lt_of_block hblk3)).trans hblk3
          have HPL3 : Hid (∀ W, Below w3.heap.size w3 W → W.heap[GN + 1 + 1 + 1 + 1]? = some (.cells #[.slice (some ⟨GN + 1 + 1 + 1, 0, none⟩) 1 1] 32 (0, 0))) := fun W hb => (hb.block _ (lt_of_block hpl)).trans hpl
          clear hpb hpl hpp hw3 hw4 hblk3 hez hs3 hGN hblk2
          have HR := Lib.hid (Below.refl w3.heap.size w3)
          have b0 := cell_of_blkP (HBL3.out _ HR.out) (j := 0) (u := .int .i64 (e0.kind)) rfl
          have b1 := cell_of_blkP (HBL3.out _ HR.out) (j := 1) (u := .int .i64 (e0.op)) rfl
          have b2 := cell_of_blkP (HBL3.out _ HR.out) (j := 2) (u := .int .i64 (e0.int)) rfl
          have b3 := cell_of_blkP (HBL3.out _ HR.out) (j := 3) (u := .string (e0.name)) rfl
          have b4 := cell_of_blkP (HBL3.out _ HR.out) (j := 4) (u := .bool (e0.at_)) rfl
          have b5 := cell_of_blkP (HBL3.out _ HR.out) (j := 5) (u := .slice p8 N8 k8) rfl
          go_wp2_with fail
          refine (K1.out _ HR.out).mono ?_
          rintro r wz ⟨rfl, hbz⟩
          have HR := Lib.hid (below_next HR.out hbz)
          clear hbz b0 b1 b2 b3 b4 b5
          have b0 := cell_of_blkP (HBL3.out _ HR.out) (j := 0) (u := .int .i64 (e0.kind)) rfl
          have b1 := cell_of_blkP (HBL3.out _ HR.out) (j := 1) (u := .int .i64 (e0.op)) rfl
          have b2 := cell_of_blkP (HBL3.out _ HR.out) (j := 2) (u := .int .i64 (e0.int)) rfl
          have b3 := cell_of_blkP (HBL3.out _ HR.out) (j := 3) (u := .string (e0.name)) rfl
          have b4 := cell_of_blkP (HBL3.out _ HR.out) (j := 4) (u := .bool (e0.at_)) rfl
          have b5 := cell_of_blkP (HBL3.out _ HR.out) (j := 5) (u := .slice p8 N8 k8) rfl
          go_wp2_with fail
          refine (K2.out _ HR.out).mono ?_
          rintro r wz ⟨rfl, hbz⟩
          have HR := Lib.hid (below_next HR.out hbz)
          clear hbz b0 b1 b2 b3 b4 b5
          have b0 := cell_of_blkP (HPL3.out _ HR.out) (j := 0) (u := .slice (some ⟨GN + 1 + 1 + 1, 0, none⟩) 1 1) rfl
          go_wp2_with fail
          refine (K3.out _ HR.out).mono ?_
          rintro r wz ⟨rfl, hbz⟩
          have HR := Lib.hid (below_next HR.out hbz)
          clear hbz b0
          have b0 := cell_of_blkP (HPL3.out _ HR.out) (j := 0) (u := .slice (some ⟨GN + 1 + 1 + 1, 0, none⟩) 1 1) rfl
          go_wp2_with fail
          refine (K4.out _ HR.out).mono ?_
          rintro r wz ⟨rfl, hbz⟩
          have HR := Lib.hid (below_next HR.out hbz)
          clear hbz b0
          go_wp2_with fail
          go_ret
          exact ⟨rfl, below_next HB3.out HR.out⟩
theorem law_spoiled' (e0 : Tr.E) (a0 : Value) (how : Int) (hhow : 0 ≤ how ∧ how ≤ 255) (w : World) (hE : SyEnv w) (h0 : BdE e0 ∧ SlE w a0 e0.args) :
    Calls Tryz.prog 8 #[exprV e0 a0, .int .u8 how] w fun r w' => r = .returned (.bool true) ∧ Below w.heap.size w w' := by
  obtain ⟨n, rfl⟩ := Int.eq_ofNat_of_zero_le hhow.1
  exact law_spoiled e0 a0 n (by omega) w hE h0
end Go.Proofs.YtlgfickhkejdjaaGreatDoor
