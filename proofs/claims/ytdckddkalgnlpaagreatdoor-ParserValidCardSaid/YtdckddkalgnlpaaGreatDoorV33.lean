/-
  Several texts in one: PbLawValid, TreeCard, PbVBase.
-/
import Derived.Test.YtdckddkalgnlpaaGreatDoorV30
import Derived.Test.YtdckddkalgnlpaaGreatDoorV31
import Derived.Test.YtdckddkalgnlpaaGreatDoorV32
import Derived.Test.YtdckddkalgnlpaaGreatDoorV24
import Derived.Test.YtdckddkalgnlpaaGreatDoorV27
import Derived.Below
import Derived.Carry
import Derived.WideKeyArgs
import Derived.ChangeSame
import Derived.Test.YtdckddkalgnlpaaGreatDoorTie
import Derived.Deep.DeepHandedRow
import Derived.Deep.DeepWitnessRowRef
import Derived.Lib.LaidTab
import Derived.Lib.SmallJoins
namespace Go.Proofs.YtdckddkalgnlpaaGreatDoor
open Go.RowKit Go.Maps Pw
theorem topE_bd {s : ByteArray} {w w' : World} {e : Ending} (h : TopE s w e w') : Below w.heap.size w w' ∧ ∃ (x : Tr.E) (p : Option Addr) (N c o er : Nat), e = .returned (.tuple #[.agg #[.int .i64 x.kind, .int .i64 x.op, .int .i64 x.int, .string x.name, .bool x.at_, .slice p N c], .int .i64 o, .int .i64 er]) ∧ Hid (SlE w' (.slice p N c) x.args ∧ BdE x) ∧ Hid (Pa.EO s.data.toList x o er) := by
 have hz : BdE Pa.zeroE := ⟨i64_small (n := 0) (by decide) (by decide), i64_small (n := 0) (by decide) (by decide), i64_small (n := 0) (by decide) (by decide), by decide⟩
 obtain ⟨hb, ⟨a, er, h1, h2⟩ | ⟨ts, x, v, h1, h2, h3, h4, h5⟩ | ⟨ts, x, h1, h2, h3, h4⟩ | ⟨ts, k, t, h1, h2, hk, ht, h4⟩⟩ := h
 ·exact ⟨hb, Pa.zeroE, none, 0, 0, a, er, h2, Lib.hid ⟨.nil none 0, hz⟩, Lib.hid (.inl ⟨h1, rfl⟩)⟩
 ·obtain ⟨a, rfl, h7, h6⟩ := h5
  obtain ⟨p, c, rfl, _⟩ := h6.form
  exact ⟨hb, x, p, _, c, 0, 0, h4, Lib.hid ⟨h6, h7⟩, Lib.hid (.inr (.inl ⟨ts, h1, h2, h3, rfl, rfl⟩))⟩
 ·exact ⟨hb, Pa.zeroE, none, 0, 0, 0, 8, h4, Lib.hid ⟨.nil none 0, hz⟩, Lib.hid (.inr (.inr (.inl ⟨ts, x, h1, h2, h3, rfl, rfl, rfl⟩)))⟩
 ·exact ⟨hb, Pa.zeroE, none, 0, 0, t.pos, 3, h4, Lib.hid ⟨.nil none 0, hz⟩, Lib.hid (.inr (.inr (.inr ⟨ts, k, t, h1, h2, hk, ht, rfl, rfl, rfl⟩)))⟩
theorem len_arr {l : List UInt8} {n : Nat} (h : l.length ≤ n) : (ByteArray.mk l.toArray).size ≤ n := by rw [Lib.size_eq]; exact h
theorem back_expr {s : ByteArray} {x : Tr.E} {o er : Nat} (h : Pa.EO s.data.toList x o er) (he : er = 0) (hl : s.size ≤ 400) (hi : Sy.i64Es x.args) (hb : BdE x) :
 Tr.validE x = true ∧ (Sy.text x).length ≤ 140737488355328 ∧ (ByteArray.mk (Sy.exprText x).toArray).size ≤ 1000000 ∧
 ∀ (y : Tr.E) (o' er' : Nat), Pa.EO (ByteArray.mk (Sy.exprText x).toArray).data.toList y o' er' → (ByteArray.mk (Sy.exprText x).toArray).size ≤ 16384 → x = y ∧ er' = 0 := by
 obtain ⟨h1, h2, h3⟩ := h.back he (by rw [← Lib.size_eq]; exact hl)
 obtain ⟨_, _, h4⟩ := Sy.expr_small (Tr.fewE_valid h1 h2) (by decide) (by decide) ((Sy.i64E_eq x).2 ⟨hb.int, hi⟩)
 refine ⟨h1, by omega, len_arr ?_, fun y o' er' hy hs => ?_⟩
 ·unfold Sy.exprText
  rw [if_pos h1]
  omega
 ·obtain ⟨h5, h6⟩ := h3 y o' er' hy (by rw [Lib.size_eq] at hs; exact hs)
  exact ⟨h5.symm, h6⟩
theorem back_prog {s : ByteArray} {x : List Tr.C} {o er : Nat} (h : Pa.PO s.data.toList x o er) (he : er = 0) (hl : s.size ≤ 400) (hi : Sy.i64P x) :
 Tr.validP x = true ∧ Tr.fitP x ∧ (∀ c ∈ x, ∀ m ∈ c.methods, Tr.S.deep.deeps m.body ≤ 900000 ∧ m.params.length ≤ 1000000) ∧ (Sy.progT x).length ≤ 140737488355328 ∧ (ByteArray.mk (Sy.programText x).toArray).size ≤ 10000000 ∧
 ∀ (y : List Tr.C) (o' er' : Nat), Pa.PO (ByteArray.mk (Sy.programText x).toArray).data.toList y o' er' → (ByteArray.mk (Sy.programText x).toArray).size ≤ 16384 → x = y ∧ er' = 0 := by
 obtain ⟨h1, h2, h3⟩ := h.back he (by rw [← Lib.size_eq]; exact hl)
 have hf := Tr.fewP_valid h1 h2
 obtain ⟨h7, _, h4⟩ := Sy.prog_small hf (by decide) hi
 refine ⟨h1, Tr.fitP_of hf (by decide), fun c hc m hm => ?_, by omega, len_arr ?_, fun y o' er' hy hs => ?_⟩
 ·have := h7 c hc m hm
  omega
 ·unfold Sy.programText
  rw [if_pos h1]
  omega
 ·obtain ⟨h5, h6⟩ := h3 y o' er' hy (by rw [Lib.size_eq] at hs; exact hs)
  exact ⟨h5.symm, h6⟩
set_option maxRecDepth 100000 in
set_option maxHeartbeats 8000000 in
theorem valid_near (s : ByteArray) (w : World) (hE : SyEnv w) (hs : s.size ≤ 400) : Calls Tryz.prog 8 #[.string s] w fun e w' => e = .returned (.bool true) ∧ Below w.heap.size w w' := by
 have hn1 : s.size ≤ 9223372036854775800 := by omega
 have HSS := Lib.hid hs
 have HE0 := Lib.hid hE
 have HB0 := Lib.hid (Below.refl w.heap.size w)
 have KA := Lib.hid (awake39_any w hE.syn.lex)
 clear hE
 go_enter Tryz.func8, Tryz.ntmps8
 go_wp2_with fail
 refine KA.out.mono ?_
 rintro e w1 ⟨rfl, hb⟩
 have HE1 := Lib.hid (HE0.out.keep hb)
 have HB1 := Lib.hid (below_next HB0.out hb)
 clear HE0 HB0
 clear hb KA
 go_wp2_with fail
 refine (topE_any s w1 HE1.out.syn.lex hn1).mono ?_
 intro e w2 hp
 obtain ⟨hb, x1, p1, N1, c1, o1, e1, rfl, HS1, HP1⟩ := topE_bd hp
 obtain ⟨hs, hbd⟩ := HS1.out
 have HS1 := Lib.hid hs
 have HBD1 := Lib.hid hbd
 clear hs hbd
 clear hp
 have HE2 := Lib.hid (HE1.out.keep hb)
 have HB2 := Lib.hid (below_next HB1.out hb)
 clear HE1 HB1
 clear hb
 obtain ⟨w3, HW⟩ : ∃ q, Hid (q = w2.alloc (.cells #[.int .i64 x1.kind, .int .i64 x1.op, .int .i64 x1.int, .string x1.name, .bool x1.at_, .slice p1 N1 c1] 33)) := ⟨_, Lib.hid rfl⟩
 obtain ⟨b1, hbq⟩ : ∃ q, q = w2.heap.size := ⟨_, rfl⟩
 have hb : Below w2.heap.size w2 w3 := by rw [HW.out]; exact below_box _ _
 have HE3 := Lib.hid (HE2.out.keep hb)
 have HB3 := Lib.hid (below_next HB2.out hb)
 clear HE2 HB2
 have HV10 : Hid (w3.cell? ⟨b1, 0, none⟩ = some (.int .i64 x1.kind)) := by rw [HW.out, hbq]; exact box_cell _ _ _ 0 _ rfl
 have HV11 : Hid (w3.cell? ⟨b1, 1, none⟩ = some (.int .i64 x1.op)) := by rw [HW.out, hbq]; exact box_cell _ _ _ 1 _ rfl
 have HV12 : Hid (w3.cell? ⟨b1, 2, none⟩ = some (.int .i64 x1.int)) := by rw [HW.out, hbq]; exact box_cell _ _ _ 2 _ rfl
 have HV13 : Hid (w3.cell? ⟨b1, 3, none⟩ = some (.string x1.name)) := by rw [HW.out, hbq]; exact box_cell _ _ _ 3 _ rfl
 have HV14 : Hid (w3.cell? ⟨b1, 4, none⟩ = some (.bool x1.at_)) := by rw [HW.out, hbq]; exact box_cell _ _ _ 4 _ rfl
 have HV15 : Hid (w3.cell? ⟨b1, 5, none⟩ = some (.slice p1 N1 c1)) := by rw [HW.out, hbq]; exact box_cell _ _ _ 5 _ rfl
 have HK1 := Lib.hid (HS1.out.keep hb)
 have HQ1 := Lib.hid hbq
 clear hb HS1 hbq
 by_cases h1 : e1 = 0
 ·have k1 : ((e1 : Int) == 0) = true := by rw [h1]; rfl
  obtain ⟨y1, y4, y5, y6⟩ := back_expr HP1.out h1 HSS.out HK1.out.i64 HBD1.out
  clear HP1 h1
  obtain ⟨u1, hu1⟩ : ∃ u : ByteArray, u = ⟨(Sy.exprText x1).toArray⟩ := ⟨_, rfl⟩
  have KT := Lib.hid (syExpr_any x1 _ w3 HE3.out HBD1.out HK1.out y4)
  rw [← hu1] at KT y5 y6
  have Y1 := Lib.hid y1
  have hn2 : u1.size ≤ 9223372036854775800 := by omega
  have Y5 := Lib.hid y5
  have Y6 := Lib.hid y6
  clear hu1 y1 y4 y5 y6
  go_wp2_with fail
  rw [← HQ1.out, ← HW.out]
  clear HW HQ1
  have v10 := HV10.out
  have v11 := HV11.out
  have v12 := HV12.out
  have v13 := HV13.out
  have v14 := HV14.out
  have v15 := HV15.out
  go_wp2_with fail
  refine KT.out.mono ?_
  rintro e w4 ⟨rfl, hb⟩
  have HE4 := Lib.hid (HE3.out.keep hb)
  have HB4 := Lib.hid (below_next HB3.out hb)
  clear HE3 HB3
  have HK1 := Lib.hid (HK1.out.keep hb)
  have HV10 := Lib.hid (cell_keep' hb HV10.out)
  have HV11 := Lib.hid (cell_keep' hb HV11.out)
  have HV12 := Lib.hid (cell_keep' hb HV12.out)
  have HV13 := Lib.hid (cell_keep' hb HV13.out)
  have HV14 := Lib.hid (cell_keep' hb HV14.out)
  have HV15 := Lib.hid (cell_keep' hb HV15.out)
  clear hb KT v10 v11 v12 v13 v14 v15
  go_wp2_with fail
  refine (topE_any u1 w4 HE4.out.syn.lex hn2).mono ?_
  intro e w5 hp
  obtain ⟨hb, x2, p2, N2, c2, o2, e2, rfl, HS2, HP2⟩ := topE_bd hp
  obtain ⟨hs, hbd⟩ := HS2.out
  have HS2 := Lib.hid hs
  have HBD2 := Lib.hid hbd
  clear hs hbd
  clear hp
  have HE5 := Lib.hid (HE4.out.keep hb)
  have HB5 := Lib.hid (below_next HB4.out hb)
  clear HE4 HB4
  have HK1 := Lib.hid (HK1.out.keep hb)
  have HV10 := Lib.hid (cell_keep' hb HV10.out)
  have HV11 := Lib.hid (cell_keep' hb HV11.out)
  have HV12 := Lib.hid (cell_keep' hb HV12.out)
  have HV13 := Lib.hid (cell_keep' hb HV13.out)
  have HV14 := Lib.hid (cell_keep' hb HV14.out)
  have HV15 := Lib.hid (cell_keep' hb HV15.out)
  clear hb
  obtain ⟨w6, HW⟩ : ∃ q, Hid (q = w5.alloc (.cells #[.int .i64 x2.kind, .int .i64 x2.op, .int .i64 x2.int, .string x2.name, .bool x2.at_, .slice p2 N2 c2] 33)) := ⟨_, Lib.hid rfl⟩
  obtain ⟨b2, hbq⟩ : ∃ q, q = w5.heap.size := ⟨_, rfl⟩
  have hb : Below w5.heap.size w5 w6 := by rw [HW.out]; exact below_box _ _
  have HE6 := Lib.hid (HE5.out.keep hb)
  have HB6 := Lib.hid (below_next HB5.out hb)
  clear HE5 HB5
  have HK1 := Lib.hid (HK1.out.keep hb)
  have HV10 := Lib.hid (cell_keep' hb HV10.out)
  have HV11 := Lib.hid (cell_keep' hb HV11.out)
  have HV12 := Lib.hid (cell_keep' hb HV12.out)
  have HV13 := Lib.hid (cell_keep' hb HV13.out)
  have HV14 := Lib.hid (cell_keep' hb HV14.out)
  have HV15 := Lib.hid (cell_keep' hb HV15.out)
  have HV20 : Hid (w6.cell? ⟨b2, 0, none⟩ = some (.int .i64 x2.kind)) := by rw [HW.out, hbq]; exact box_cell _ _ _ 0 _ rfl
  have HV21 : Hid (w6.cell? ⟨b2, 1, none⟩ = some (.int .i64 x2.op)) := by rw [HW.out, hbq]; exact box_cell _ _ _ 1 _ rfl
  have HV22 : Hid (w6.cell? ⟨b2, 2, none⟩ = some (.int .i64 x2.int)) := by rw [HW.out, hbq]; exact box_cell _ _ _ 2 _ rfl
  have HV23 : Hid (w6.cell? ⟨b2, 3, none⟩ = some (.string x2.name)) := by rw [HW.out, hbq]; exact box_cell _ _ _ 3 _ rfl
  have HV24 : Hid (w6.cell? ⟨b2, 4, none⟩ = some (.bool x2.at_)) := by rw [HW.out, hbq]; exact box_cell _ _ _ 4 _ rfl
  have HV25 : Hid (w6.cell? ⟨b2, 5, none⟩ = some (.slice p2 N2 c2)) := by rw [HW.out, hbq]; exact box_cell _ _ _ 5 _ rfl
  have HK2 := Lib.hid (HS2.out.keep hb)
  have HQ2 := Lib.hid hbq
  clear hb HS2 hbq
  have KV := Lib.hid (validExpr_any x1.deep x1 _ w6 (Nat.le_refl _) HE6.out.syn.lex HBD1.out HK1.out)
  rw [Y1.out] at KV
  by_cases hl1 : u1.size ≤ 16384
  ·obtain ⟨hy, he2⟩ := Y6.out _ _ _ HP2.out hl1
   have k2 : ((e2 : Int) != 0) = false := by rw [he2]; rfl
   have KX : Hid (∀ W, Below w6.heap.size w6 W → Calls Tryz.prog 19 #[.agg #[.int .i64 x1.kind, .int .i64 x1.op, .int .i64 x1.int, .string x1.name, .bool x1.at_, .slice p1 N1 c1], .agg #[.int .i64 x2.kind, .int .i64 x2.op, .int .i64 x2.int, .string x2.name, .bool x2.at_, .slice p2 N2 c2]] W fun r w' => r = .returned (.bool true) ∧ Below W.heap.size W w') := Lib.hid (fun W hb => by
    have k := equalExpr_any x1.deep x1 x2 _ _ W (Nat.le_refl _) (HK1.out.keep hb) (HK2.out.keep hb)
    rw [(Sy.sameE_iff _ _).2 hy] at k
    exact k)
   clear hy he2 HP2
   go_upto_region 9 with fail
   rw [← HQ2.out, ← HW.out]
   clear HW HQ2
   have v10 := HV10.out
   have v11 := HV11.out
   have v12 := HV12.out
   have v13 := HV13.out
   have v14 := HV14.out
   have v15 := HV15.out
   go_wp2_with fail
   refine KV.out.mono ?_
   rintro e w7 ⟨rfl, hbx⟩
   have v10 := cell_keep' hbx HV10.out
   have v11 := cell_keep' hbx HV11.out
   have v12 := cell_keep' hbx HV12.out
   have v13 := cell_keep' hbx HV13.out
   have v14 := cell_keep' hbx HV14.out
   have v15 := cell_keep' hbx HV15.out
   have v20 := cell_keep' hbx HV20.out
   have v21 := cell_keep' hbx HV21.out
   have v22 := cell_keep' hbx HV22.out
   have v23 := cell_keep' hbx HV23.out
   have v24 := cell_keep' hbx HV24.out
   have v25 := cell_keep' hbx HV25.out
   go_wp2_with fail
   refine (KX.out _ hbx).mono ?_
   rintro e w8 ⟨rfl, hby⟩
   have hb := below_next hbx hby
   have HE8 := Lib.hid (HE6.out.keep hb)
   have HB8 := Lib.hid (below_next HB6.out hb)
   clear HE6 HB6
   clear hb hbx hby KV KX Y1 Y5 Y6 v10 v11 v12 v13 v14 v15 v20 v21 v22 v23 v24 v25 HV10 HV11 HV12 HV13 HV14 HV15 HV20 HV21 HV22 HV23 HV24 HV25 HK1 HK2
   go_wp2_with fail
   refine (topP_any s w8 HE8.out.syn.lex hn1).mono ?_
   intro e w9 hp
   obtain ⟨hb, x5, p5, N5, c5, o5, e5, rfl, HS5, HP5⟩ := topP_po hp
   clear hp
   have HE9 := Lib.hid (HE8.out.keep hb)
   have HB9 := Lib.hid (below_next HB8.out hb)
   clear HE8 HB8
   clear hb
   obtain ⟨w10, HW⟩ : ∃ q, Hid (q = w9.alloc (.cells #[.slice p5 N5 c5] 25)) := ⟨_, Lib.hid rfl⟩
   obtain ⟨b5, hbq⟩ : ∃ q, q = w9.heap.size := ⟨_, rfl⟩
   have hb : Below w9.heap.size w9 w10 := by rw [HW.out]; exact below_box _ _
   have HE10 := Lib.hid (HE9.out.keep hb)
   have HB10 := Lib.hid (below_next HB9.out hb)
   clear HE9 HB9
   have HV5 : Hid (w10.cell? ⟨b5, 0, none⟩ = some (.slice p5 N5 c5)) := by rw [HW.out, hbq]; exact box_cell _ _ _ 0 _ rfl
   have HK5 := Lib.hid (HS5.out.keep hb)
   have HQ5 := Lib.hid hbq
   clear hb HS5 hbq
   by_cases h5 : e5 = 0
   ·have k5 : ((e5 : Int) != 0) = false := by rw [h5]; rfl
    obtain ⟨y1, y2, y3, y4, y5, y6⟩ := back_prog HP5.out h5 HSS.out HK5.out.i64
    clear HP5 h5
    obtain ⟨u5, hu5⟩ : ∃ u : ByteArray, u = ⟨(Sy.programText x5).toArray⟩ := ⟨_, rfl⟩
    have KT := Lib.hid (program_any _ x5 w10 HE10.out y2 HK5.out y3 y4)
    rw [← hu5] at KT y5 y6
    have Y1 := Lib.hid y1
    have Y2 := Lib.hid y2
    have hn5 : u5.size ≤ 9223372036854775800 := by omega
    have Y5 := Lib.hid y5
    have Y6 := Lib.hid y6
    clear hu5 y1 y2 y3 y4 y5 y6
    go_wp2_with fail
    rw [← HQ5.out, ← HW.out]
    clear HW HQ5
    have v5 := HV5.out
    go_wp2_with fail
    refine KT.out.mono ?_
    rintro e w11 ⟨rfl, hb⟩
    have HE11 := Lib.hid (HE10.out.keep hb)
    have HB11 := Lib.hid (below_next HB10.out hb)
    clear HE10 HB10
    have HK5 := Lib.hid (HK5.out.keep hb)
    have HV5 := Lib.hid (cell_keep' hb HV5.out)
    clear hb KT v5
    go_wp2_with fail
    refine (topP_any u5 w11 HE11.out.syn.lex hn5).mono ?_
    intro e w12 hp
    obtain ⟨hb, x6, p6, N6, c6, o6, e6, rfl, HS6, HP6⟩ := topP_po hp
    clear hp
    have HE12 := Lib.hid (HE11.out.keep hb)
    have HB12 := Lib.hid (below_next HB11.out hb)
    clear HE11 HB11
    have HK5 := Lib.hid (HK5.out.keep hb)
    have HV5 := Lib.hid (cell_keep' hb HV5.out)
    clear hb
    obtain ⟨w13, HW⟩ : ∃ q, Hid (q = w12.alloc (.cells #[.slice p6 N6 c6] 25)) := ⟨_, Lib.hid rfl⟩
    obtain ⟨b6, hbq⟩ : ∃ q, q = w12.heap.size := ⟨_, rfl⟩
    have hb : Below w12.heap.size w12 w13 := by rw [HW.out]; exact below_box _ _
    have HE13 := Lib.hid (HE12.out.keep hb)
    have HB13 := Lib.hid (below_next HB12.out hb)
    clear HE12 HB12
    have HK5 := Lib.hid (HK5.out.keep hb)
    have HV5 := Lib.hid (cell_keep' hb HV5.out)
    have HV6 : Hid (w13.cell? ⟨b6, 0, none⟩ = some (.slice p6 N6 c6)) := by rw [HW.out, hbq]; exact box_cell _ _ _ 0 _ rfl
    have HK6 := Lib.hid (HS6.out.keep hb)
    have HQ6 := Lib.hid hbq
    clear hb HS6 hbq
    have KV := Lib.hid (valid_any _ x5 w13 HE13.out.syn Y2.out HK5.out)
    rw [Y1.out] at KV
    by_cases hl5 : u5.size ≤ 16384
    ·obtain ⟨hy, he6⟩ := Y6.out _ _ _ HP6.out hl5
     have k6 : ((e6 : Int) == 0) = true := by rw [he6]; rfl
     have KQ : Hid (∀ W, Below w13.heap.size w13 W → Calls Tryz.prog 17 #[.agg #[.slice p5 N5 c5], .agg #[.slice p6 N6 c6]] W fun r w' => r = .returned (.bool true) ∧ Below W.heap.size W w') := Lib.hid (fun W hb => by
      have k := equal_any x5 x6 _ _ W (HK5.out.keep hb) (HK6.out.keep hb)
      rw [(Sy.sameCs_iff _ _).2 hy] at k
      exact k)
     clear hy he6 HP6
     go_upto_region 16 with fail
     rw [← HQ6.out, ← HW.out]
     clear HW HQ6
     have v5 := HV5.out
     go_wp2_with fail
     refine KV.out.mono ?_
     rintro e w14 ⟨rfl, hbx⟩
     have v5 := cell_keep' hbx HV5.out
     have v6 := cell_keep' hbx HV6.out
     go_wp2_with fail
     refine (KQ.out _ hbx).mono ?_
     rintro e w15 ⟨rfl, hby⟩
     go_wp2_with fail
     go_ret
     exact ⟨rfl, below_next HB13.out (below_next hbx hby)⟩
    ·go_upto_region 16 with fail
     rw [← HQ6.out, ← HW.out]
     clear HW HQ6
     have v5 := HV5.out
     go_wp2_with fail
     refine KV.out.mono ?_
     rintro e w14 ⟨rfl, hbx⟩
     go_wp2_with fail
     go_ret
     exact ⟨rfl, below_next HB13.out hbx⟩
   ·have k5 : ((e5 : Int) != 0) = true := by rw [bne_iff_ne]; omega
    go_wp2_with fail
    rw [← HQ5.out, ← HW.out]
    clear HW HQ5
    go_wp2_with fail
    go_ret
    exact ⟨rfl, HB10.out⟩
  ·go_upto_region 9 with fail
   rw [← HQ2.out, ← HW.out]
   clear HW HQ2
   have v10 := HV10.out
   have v11 := HV11.out
   have v12 := HV12.out
   have v13 := HV13.out
   have v14 := HV14.out
   have v15 := HV15.out
   go_wp2_with fail
   refine KV.out.mono ?_
   rintro e w7 ⟨rfl, hb⟩
   have HE7 := Lib.hid (HE6.out.keep hb)
   have HB7 := Lib.hid (below_next HB6.out hb)
   clear HE6 HB6
   clear hb KV Y1 Y5 Y6 v10 v11 v12 v13 v14 v15 HV10 HV11 HV12 HV13 HV14 HV15 HV20 HV21 HV22 HV23 HV24 HV25 HK1 HK2
   go_wp2_with fail
   refine (topP_any s w7 HE7.out.syn.lex hn1).mono ?_
   intro e w8 hp
   obtain ⟨hb, x5, p5, N5, c5, o5, e5, rfl, HS5, HP5⟩ := topP_po hp
   clear hp
   have HE8 := Lib.hid (HE7.out.keep hb)
   have HB8 := Lib.hid (below_next HB7.out hb)
   clear HE7 HB7
   clear hb
   obtain ⟨w9, HW⟩ : ∃ q, Hid (q = w8.alloc (.cells #[.slice p5 N5 c5] 25)) := ⟨_, Lib.hid rfl⟩
   obtain ⟨b5, hbq⟩ : ∃ q, q = w8.heap.size := ⟨_, rfl⟩
   have hb : Below w8.heap.size w8 w9 := by rw [HW.out]; exact below_box _ _
   have HE9 := Lib.hid (HE8.out.keep hb)
   have HB9 := Lib.hid (below_next HB8.out hb)
   clear HE8 HB8
   have HV5 : Hid (w9.cell? ⟨b5, 0, none⟩ = some (.slice p5 N5 c5)) := by rw [HW.out, hbq]; exact box_cell _ _ _ 0 _ rfl
   have HK5 := Lib.hid (HS5.out.keep hb)
   have HQ5 := Lib.hid hbq
   clear hb HS5 hbq
   by_cases h5 : e5 = 0
   ·have k5 : ((e5 : Int) != 0) = false := by rw [h5]; rfl
    obtain ⟨y1, y2, y3, y4, y5, y6⟩ := back_prog HP5.out h5 HSS.out HK5.out.i64
    clear HP5 h5
    obtain ⟨u5, hu5⟩ : ∃ u : ByteArray, u = ⟨(Sy.programText x5).toArray⟩ := ⟨_, rfl⟩
    have KT := Lib.hid (program_any _ x5 w9 HE9.out y2 HK5.out y3 y4)
    rw [← hu5] at KT y5 y6
    have Y1 := Lib.hid y1
    have Y2 := Lib.hid y2
    have hn5 : u5.size ≤ 9223372036854775800 := by omega
    have Y5 := Lib.hid y5
    have Y6 := Lib.hid y6
    clear hu5 y1 y2 y3 y4 y5 y6
    go_wp2_with fail
    rw [← HQ5.out, ← HW.out]
    clear HW HQ5
    have v5 := HV5.out
    go_wp2_with fail
    refine KT.out.mono ?_
    rintro e w10 ⟨rfl, hb⟩
    have HE10 := Lib.hid (HE9.out.keep hb)
    have HB10 := Lib.hid (below_next HB9.out hb)
    clear HE9 HB9
    have HK5 := Lib.hid (HK5.out.keep hb)
    have HV5 := Lib.hid (cell_keep' hb HV5.out)
    clear hb KT v5
    go_wp2_with fail
    refine (topP_any u5 w10 HE10.out.syn.lex hn5).mono ?_
    intro e w11 hp
    obtain ⟨hb, x6, p6, N6, c6, o6, e6, rfl, HS6, HP6⟩ := topP_po hp
    clear hp
    have HE11 := Lib.hid (HE10.out.keep hb)
    have HB11 := Lib.hid (below_next HB10.out hb)
    clear HE10 HB10
    have HK5 := Lib.hid (HK5.out.keep hb)
    have HV5 := Lib.hid (cell_keep' hb HV5.out)
    clear hb
    obtain ⟨w12, HW⟩ : ∃ q, Hid (q = w11.alloc (.cells #[.slice p6 N6 c6] 25)) := ⟨_, Lib.hid rfl⟩
    obtain ⟨b6, hbq⟩ : ∃ q, q = w11.heap.size := ⟨_, rfl⟩
    have hb : Below w11.heap.size w11 w12 := by rw [HW.out]; exact below_box _ _
    have HE12 := Lib.hid (HE11.out.keep hb)
    have HB12 := Lib.hid (below_next HB11.out hb)
    clear HE11 HB11
    have HK5 := Lib.hid (HK5.out.keep hb)
    have HV5 := Lib.hid (cell_keep' hb HV5.out)
    have HV6 : Hid (w12.cell? ⟨b6, 0, none⟩ = some (.slice p6 N6 c6)) := by rw [HW.out, hbq]; exact box_cell _ _ _ 0 _ rfl
    have HK6 := Lib.hid (HS6.out.keep hb)
    have HQ6 := Lib.hid hbq
    clear hb HS6 hbq
    have KV := Lib.hid (valid_any _ x5 w12 HE12.out.syn Y2.out HK5.out)
    rw [Y1.out] at KV
    by_cases hl5 : u5.size ≤ 16384
    ·obtain ⟨hy, he6⟩ := Y6.out _ _ _ HP6.out hl5
     have k6 : ((e6 : Int) == 0) = true := by rw [he6]; rfl
     have KQ : Hid (∀ W, Below w12.heap.size w12 W → Calls Tryz.prog 17 #[.agg #[.slice p5 N5 c5], .agg #[.slice p6 N6 c6]] W fun r w' => r = .returned (.bool true) ∧ Below W.heap.size W w') := Lib.hid (fun W hb => by
      have k := equal_any x5 x6 _ _ W (HK5.out.keep hb) (HK6.out.keep hb)
      rw [(Sy.sameCs_iff _ _).2 hy] at k
      exact k)
     clear hy he6 HP6
     go_upto_region 16 with fail
     rw [← HQ6.out, ← HW.out]
     clear HW HQ6
     have v5 := HV5.out
     go_wp2_with fail
     refine KV.out.mono ?_
     rintro e w13 ⟨rfl, hbx⟩
     have v5 := cell_keep' hbx HV5.out
     have v6 := cell_keep' hbx HV6.out
     go_wp2_with fail
     refine (KQ.out _ hbx).mono ?_
     rintro e w14 ⟨rfl, hby⟩
     go_wp2_with fail
     go_ret
     exact ⟨rfl, below_next HB12.out (below_next hbx hby)⟩
    ·go_upto_region 16 with fail
     rw [← HQ6.out, ← HW.out]
     clear HW HQ6
     have v5 := HV5.out
     go_wp2_with fail
     refine KV.out.mono ?_
     rintro e w13 ⟨rfl, hbx⟩
     go_wp2_with fail
     go_ret
     exact ⟨rfl, below_next HB12.out hbx⟩
   ·have k5 : ((e5 : Int) != 0) = true := by rw [bne_iff_ne]; omega
    go_wp2_with fail
    rw [← HQ5.out, ← HW.out]
    clear HW HQ5
    go_wp2_with fail
    go_ret
    exact ⟨rfl, HB9.out⟩
 ·have k1 : ((e1 : Int) == 0) = false := by simp; omega
  go_wp2_with fail
  rw [← HQ1.out, ← HW.out]
  clear HW HQ1
  clear HV10 HV11 HV12 HV13 HV14 HV15 HK1 HP1
  go_wp2_with fail
  refine (topP_any s w3 HE3.out.syn.lex hn1).mono ?_
  intro e w4 hp
  obtain ⟨hb, x5, p5, N5, c5, o5, e5, rfl, HS5, HP5⟩ := topP_po hp
  clear hp
  have HE4 := Lib.hid (HE3.out.keep hb)
  have HB4 := Lib.hid (below_next HB3.out hb)
  clear HE3 HB3
  clear hb
  obtain ⟨w5, HW⟩ : ∃ q, Hid (q = w4.alloc (.cells #[.slice p5 N5 c5] 25)) := ⟨_, Lib.hid rfl⟩
  obtain ⟨b5, hbq⟩ : ∃ q, q = w4.heap.size := ⟨_, rfl⟩
  have hb : Below w4.heap.size w4 w5 := by rw [HW.out]; exact below_box _ _
  have HE5 := Lib.hid (HE4.out.keep hb)
  have HB5 := Lib.hid (below_next HB4.out hb)
  clear HE4 HB4
  have HV5 : Hid (w5.cell? ⟨b5, 0, none⟩ = some (.slice p5 N5 c5)) := by rw [HW.out, hbq]; exact box_cell _ _ _ 0 _ rfl
  have HK5 := Lib.hid (HS5.out.keep hb)
  have HQ5 := Lib.hid hbq
  clear hb HS5 hbq
  by_cases h5 : e5 = 0
  ·have k5 : ((e5 : Int) != 0) = false := by rw [h5]; rfl
   obtain ⟨y1, y2, y3, y4, y5, y6⟩ := back_prog HP5.out h5 HSS.out HK5.out.i64
   clear HP5 h5
   obtain ⟨u5, hu5⟩ : ∃ u : ByteArray, u = ⟨(Sy.programText x5).toArray⟩ := ⟨_, rfl⟩
   have KT := Lib.hid (program_any _ x5 w5 HE5.out y2 HK5.out y3 y4)
   rw [← hu5] at KT y5 y6
   have Y1 := Lib.hid y1
   have Y2 := Lib.hid y2
   have hn5 : u5.size ≤ 9223372036854775800 := by omega
   have Y5 := Lib.hid y5
   have Y6 := Lib.hid y6
   clear hu5 y1 y2 y3 y4 y5 y6
   go_wp2_with fail
   rw [← HQ5.out, ← HW.out]
   clear HW HQ5
   have v5 := HV5.out
   go_wp2_with fail
   refine KT.out.mono ?_
   rintro e w6 ⟨rfl, hb⟩
   have HE6 := Lib.hid (HE5.out.keep hb)
   have HB6 := Lib.hid (below_next HB5.out hb)
   clear HE5 HB5
   have HK5 := Lib.hid (HK5.out.keep hb)
   have HV5 := Lib.hid (cell_keep' hb HV5.out)
   clear hb KT v5
   go_wp2_with fail
   refine (topP_any u5 w6 HE6.out.syn.lex hn5).mono ?_
   intro e w7 hp
   obtain ⟨hb, x6, p6, N6, c6, o6, e6, rfl, HS6, HP6⟩ := topP_po hp
   clear hp
   have HE7 := Lib.hid (HE6.out.keep hb)
   have HB7 := Lib.hid (below_next HB6.out hb)
   clear HE6 HB6
   have HK5 := Lib.hid (HK5.out.keep hb)
   have HV5 := Lib.hid (cell_keep' hb HV5.out)
   clear hb
   obtain ⟨w8, HW⟩ : ∃ q, Hid (q = w7.alloc (.cells #[.slice p6 N6 c6] 25)) := ⟨_, Lib.hid rfl⟩
   obtain ⟨b6, hbq⟩ : ∃ q, q = w7.heap.size := ⟨_, rfl⟩
   have hb : Below w7.heap.size w7 w8 := by rw [HW.out]; exact below_box _ _
   have HE8 := Lib.hid (HE7.out.keep hb)
   have HB8 := Lib.hid (below_next HB7.out hb)
   clear HE7 HB7
   have HK5 := Lib.hid (HK5.out.keep hb)
   have HV5 := Lib.hid (cell_keep' hb HV5.out)
   have HV6 : Hid (w8.cell? ⟨b6, 0, none⟩ = some (.slice p6 N6 c6)) := by rw [HW.out, hbq]; exact box_cell _ _ _ 0 _ rfl
   have HK6 := Lib.hid (HS6.out.keep hb)
   have HQ6 := Lib.hid hbq
   clear hb HS6 hbq
   have KV := Lib.hid (valid_any _ x5 w8 HE8.out.syn Y2.out HK5.out)
   rw [Y1.out] at KV
   by_cases hl5 : u5.size ≤ 16384
   ·obtain ⟨hy, he6⟩ := Y6.out _ _ _ HP6.out hl5
    have k6 : ((e6 : Int) == 0) = true := by rw [he6]; rfl
    have KQ : Hid (∀ W, Below w8.heap.size w8 W → Calls Tryz.prog 17 #[.agg #[.slice p5 N5 c5], .agg #[.slice p6 N6 c6]] W fun r w' => r = .returned (.bool true) ∧ Below W.heap.size W w') := Lib.hid (fun W hb => by
     have k := equal_any x5 x6 _ _ W (HK5.out.keep hb) (HK6.out.keep hb)
     rw [(Sy.sameCs_iff _ _).2 hy] at k
     exact k)
    clear hy he6 HP6
    go_upto_region 16 with fail
    rw [← HQ6.out, ← HW.out]
    clear HW HQ6
    have v5 := HV5.out
    go_wp2_with fail
    refine KV.out.mono ?_
    rintro e w9 ⟨rfl, hbx⟩
    have v5 := cell_keep' hbx HV5.out
    have v6 := cell_keep' hbx HV6.out
    go_wp2_with fail
    refine (KQ.out _ hbx).mono ?_
    rintro e w10 ⟨rfl, hby⟩
    go_wp2_with fail
    go_ret
    exact ⟨rfl, below_next HB8.out (below_next hbx hby)⟩
   ·go_upto_region 16 with fail
    rw [← HQ6.out, ← HW.out]
    clear HW HQ6
    have v5 := HV5.out
    go_wp2_with fail
    refine KV.out.mono ?_
    rintro e w9 ⟨rfl, hbx⟩
    go_wp2_with fail
    go_ret
    exact ⟨rfl, below_next HB8.out hbx⟩
  ·have k5 : ((e5 : Int) != 0) = true := by rw [bne_iff_ne]; omega
   go_wp2_with fail
   rw [← HQ5.out, ← HW.out]
   clear HW HQ5
   go_wp2_with fail
   go_ret
   exact ⟨rfl, HB5.out⟩
set_option maxRecDepth 100000 in
set_option maxHeartbeats 8000000 in
theorem valid_far (s : ByteArray) (w : World) (hE : SyEnv w) (hf : 400 < s.size) : Calls Tryz.prog 8 #[.string s] w fun e w' => e = .returned (.bool true) ∧ Below w.heap.size w w' := by
 have KA := Lib.hid (awake39_any w hE.syn.lex)
 clear hE
 go_enter Tryz.func8, Tryz.ntmps8
 go_wp2_with fail
 refine KA.out.mono ?_
 rintro e w1 ⟨rfl, hb1⟩
 go_wp2_with fail
 go_ret
 exact ⟨rfl, hb1⟩
theorem law_valid (s : ByteArray) (w : World) (hE : SyEnv w) : Calls Tryz.prog 8 #[.string s] w fun e w' => e = .returned (.bool true) ∧ Below w.heap.size w w' := by
 by_cases hs : s.size ≤ 400
 ·exact valid_near s w hE hs
 ·exact valid_far s w hE (by omega)
end Go.Proofs.YtdckddkalgnlpaaGreatDoor
namespace Go.Proofs.YtdckddkalgnlpaaGreatDoor
open Go.RowKit Go.WideShapes Go.ChangeShapes
section
variable {H : Type} {enc : TypeId × Value → H} {P : Program}
theorem trodAll_stays (hl : laidOutB P = true) {W W' : World} {sp : Nat → Bool} : ∀ {ts : List TypeId} {vs : List Value} {ds : List (DataW H)} {ps : List MemPlace}, (∀ t ∈ ts, P.readableRec t = true ∧ t < P.types.size) →
 DataW.TrodAll enc P W 0 (fun _ => true) true ts vs ds ps → (∀ p ∈ ps, W.sameAt W' p) → (∀ p ∈ ps, sp p.block = true) → DataW.TrodAll enc P W' 0 sp true ts vs ds ps
 | [], [], [], ps, _, h, _, _ => h
 | t :: ts, v :: vs, d :: ds, ps, hr, h, hsame, hs => by
   obtain ⟨p, q, h1, h2, rfl⟩ := h
   obtain ⟨r1, r2⟩ := hr t (by simp)
   exact ⟨p, q, WideElems.Trod_stays hl r1 r2 h1 (fun x hx => hsame x (by simp [hx])) (fun x hx => hs x (by simp [hx])),
    trodAll_stays hl (fun t ht => hr t (by simp [ht])) h2 (fun x hx => hsame x (by simp [hx])) (fun x hx => hs x (by simp [hx])), rfl⟩
 | [], [], _ :: _, _, _, h, _, _ => h.elim
 | [], _ :: _, _, _, _, h, _, _ => h.elim
 | _ :: _, [], _, _, _, h, _, _ => h.elim
 | _ :: _, _ :: _, [], _, _, h, _, _ => h.elim
theorem post_all (hl : laidOutB P = true) {f : Func} {s : ChangeSpec} {apart fresh handsOn again : Bool} {W W' : World} {args : Array Value} {v : Value} {ds gs : List (DataW H)} {before : List MemPlace}
 (hW : DataW.Whole enc P f.params.toList s.vars apart W args.toList ds gs before) (hv : s.vars = []) (hr : ∀ t ∈ f.params.toList, P.readableRec t = true ∧ t < P.types.size) (hb : Below W.heap.size W W')
 (hres : ∀ (b : Nat) (sp : Nat → Bool) (hd : Bool), DataW.TrodAll enc P W' b sp hd f.resultTypes.toList (v.resultList f.resultTypes.size) (s.fn H (ds ++ gs)).results [])
 (hsa : (s.fn H (ds ++ gs)).args = ds) (hsv : (s.fn H (ds ++ gs)).vars = [])
 (hok : ∀ (j : Nat) (t : TypeId) (r : Value), f.resultTypes[j]? = some t → (v.resultList f.resultTypes.size)[j]? = some r → Value.okWide P W' .any 0 t r) :
 s.post enc P f apart fresh handsOn again W args v W' := by
 have hW0 := hW
 obtain ⟨p, q, hA, hV, hpq, hz, hn⟩ := hW
 have hlt : ∀ x ∈ before, x.block < W.heap.size := fun x hx => hW0.lt x hx
 obtain ⟨rfl, hq⟩ : before = p ∧ q = [] := by
  rw [hv] at hV
  cases gs with
  | nil => exact ⟨by rw [hpq, show q = [] from hV]; simp, hV⟩
  | cons => exact hV.elim
 have hargs : ∀ sp : Nat → Bool, (∀ x ∈ before, sp x.block = true) → DataW.TrodAll enc P W' 0 sp true f.params.toList args.toList (s.fn H (ds ++ gs)).args before := fun sp hsp => by
  rw [hsa]
  exact trodAll_stays hl hr hA (fun x hx => hb.same (hlt x hx)) hsp
 have hvars : ∀ sp : Nat → Bool, DataW.TrodVars enc P W' sp s.vars (s.fn H (ds ++ gs)).vars [] := fun sp => by rw [hv, hsv]; rfl
 have old : ∀ x ∈ before, decide (x.block < W.heap.size) = true := fun x hx => decide_eq_true (hlt x hx)
 refine ⟨ds, gs, before, [], before, [], hW0, hres _ _ _, hargs (fun b => decide (b < W.heap.size)) old, hvars _, World.keptBut_mono (fun x hx => ⟨hx, .inr (by simpa using hx)⟩) (hb.frame (· ∈ before)), fun _ => ⟨hok, ?_⟩⟩
 refine ⟨_, _, ([] ++ before) ++ [], ⟨[] ++ before, [], trodAll_append (hargs _ (fun _ _ => rfl)) (hres _ _ _), hvars _, rfl, fun b off hp => ?_, fun ha => ?_⟩, fun x hx _ => by simpa using hx⟩
 ·have hin : MemPlace.cell b off ∈ before := by simpa using hp
  rw [hb.frozen (of_decide_eq_true (old _ hin))]
  exact hz b off (by simpa using hin)
 ·simpa using hn ha
end
end Go.Proofs.YtdckddkalgnlpaaGreatDoor
namespace Go.Proofs.YtdckddkalgnlpaaGreatDoor
open Go.RowKit Go.ChangeShapes Go.WideShapes
theorem own : ownKnob Tryz.prog.godebug = none := by kernel_rfl
theorem laidOut : laidOutB Tryz.prog = true := by kernel_rfl
def rowOf : DataW Unit → List Value
 | .agg l => l.map fun | .lit (.int k n) => .int k n | .lit (.bool b) => .bool b | .lit (.string s) => .string ⟨s.toArray⟩ | _ => .nilIface
 | _ => []
def rowsOf : DataW Unit → List Value
 | .agg l => l.flatMap rowOf
 | _ => []
def strsOf (l : List (List UInt8)) : Array Value := (l.map fun x => Value.string ⟨x.toArray⟩).toArray
noncomputable def laidWorld (os : Os) : World :=
 let N := (World.settled Tryz.prog os).heap.size
 let w0 := World.holding Tryz.prog os ⟨#[
  .cells (strsOf Lex.keywords) 9, .cells (strsOf Lex.symbols) 9,
  .cells #[.string ⟨#[105, 110, 118, 97, 108, 105, 100, 32, 115, 121, 110, 116, 97, 120]⟩] 227,
  .cells #[.string ⟨#[118, 97, 108, 117, 101, 32, 111, 117, 116, 32, 111, 102, 32, 114, 97, 110, 103, 101]⟩] 227], #[], []⟩
 let put (h : Array Obj) (g : Nat) (cs : Array Value) : Array Obj := h.modify g fun
  | .cells _ t frozen => .cells cs t frozen
  | o => o
 let h := put w0.heap 3 #[.slice (some ⟨N, 0, none⟩) 24 24]
 let h := put h 1 #[.slice (some ⟨N + 1, 0, none⟩) 19 19]
 let h := put h 5 #[.iface 225 (.pointer (some ⟨N + 2, 0, none⟩))]
 let h := put h 6 #[.iface 225 (.pointer (some ⟨N + 3, 0, none⟩))]
 let h := put h 7 (rowOf Go.Pinned.utf8First).toArray
 let h := put h 8 (rowsOf Rows.laid_unicode_utf8_acceptRanges).toArray
 let h := put h 9 (rowOf Rows.laid_internal_strconv_uint64pow10).toArray
 let h := put h 10 (rowOf Rows.laid_math_bits_deBruijn32tab).toArray
 let h := put h 11 (rowOf Rows.laid_math_bits_deBruijn64tab).toArray
 let h := put h 2 (rowsOf Rows.laid_refmesh_syntax_operators).toArray
 let h := put h 0 (rowsOf Rows.laid_refmesh_syntax_forms).toArray
 { w0 with heap := h }
theorem laid_met (os : Os) (args : Array Value) : laidMet Tryz.prog Rows.parserValidRow.laid ((laidWorld os).forCall (fun _ _ => 0) ⟨#[], args, []⟩).memory :=
 laidMet_of_run' 8 (by kernel_rfl) (by kernel_rfl)
end Go.Proofs.YtdckddkalgnlpaaGreatDoor
