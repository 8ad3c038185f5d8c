/-
  Several texts in one: PbLawSpace, PaEnv, PaCardBase.
-/
import Derived.Test.YtdckddkalgnlpaaGreatDoorS19
import Derived.Test.YtdckddkalgnlpaaGreatDoorS2
import Derived.Test.YtdckddkalgnlpaaGreatDoorCards
import Derived.ProofKit
import Derived.OpenShut
import Derived.SliceStrings
import Derived.LaidLaws
import Derived.Test.YtdckddkalgnlpaaGreatDoorTie
import Derived.Below
import Derived.ChangeSame
import Derived.Deep.DeepHandedRow
import Derived.Deep.DeepWitnessRowRef
import Derived.Lib.LaidTab
namespace Go.Proofs.YtdckddkalgnlpaaGreatDoor
open Go.RowKit Go.Maps Pw
theorem topE_eo {s : ByteArray} {w w' : World} {e : Ending} (h : TopE s w e w') : Below w.heap.size w w' ∧ ∃ (x : Tr.E) (p : Option Addr) (N c o er : Nat), e = .returned (.tuple #[.agg #[.int .i64 x.kind, .int .i64 x.op, .int .i64 x.int, .string x.name, .bool x.at_, .slice p N c], .int .i64 o, .int .i64 er]) ∧ Hid (SlE w' (.slice p N c) x.args) ∧ Hid (Pa.EO s.data.toList x o er) := by
  obtain ⟨hb, ⟨a, er, h1, h2⟩ | ⟨ts, x, v, h1, h2, h3, h4, h5⟩ | ⟨ts, x, h1, h2, h3, h4⟩ | ⟨ts, k, t, h1, h2, hk, ht, h4⟩⟩ := h
  · exact ⟨hb, Pa.zeroE, none, 0, 0, a, er, h2, Lib.hid (.nil none 0), Lib.hid (.inl ⟨h1, rfl⟩)⟩
  · obtain ⟨a, rfl, _, h6⟩ := h5
    obtain ⟨p, c, rfl, _⟩ := h6.form
    exact ⟨hb, x, p, _, c, 0, 0, h4, Lib.hid h6, Lib.hid (.inr (.inl ⟨ts, h1, h2, h3, rfl, rfl⟩))⟩
  · exact ⟨hb, Pa.zeroE, none, 0, 0, 0, 8, h4, Lib.hid (.nil none 0), Lib.hid (.inr (.inr (.inl ⟨ts, x, h1, h2, h3, rfl, rfl, rfl⟩)))⟩
  · exact ⟨hb, Pa.zeroE, none, 0, 0, t.pos, 3, h4, Lib.hid (.nil none 0), Lib.hid (.inr (.inr (.inr ⟨ts, k, t, h1, h2, hk, ht, rfl, rfl, rfl⟩)))⟩
set_option maxRecDepth 100000 in
set_option maxHeartbeats 8000000 in
theorem spaces_bad (s : ByteArray) (w : World) (hE : LexEnv w) (hs : s.size ≤ 400) (a er : Nat) (hsc : Lex.scan s.data.toList = .bad a er) : Calls Tryz.prog 7 #[.string s] w fun e w' => e = .returned (.bool true) ∧ Below w.heap.size w w' := by
  have hpos : 0 < er := scan_badpos hsc
  have hne : ((er : Int) != 0) = true := by rw [bne_iff_ne]; omega
  have HSC := Lib.hid hsc
  clear hsc hpos
  have hn1 : s.size ≤ 9223372036854775800 := by omega
  have HE0 := Lib.hid hE
  have HB0 := Lib.hid (Below.refl w.heap.size w)
  have KA := Lib.hid (awake39_any w hE)
  clear hE
  go_enter Tryz.func7, Tryz.ntmps7
  go_wp2_with fail
  refine KA.out.mono ?_
  rintro e w1 ⟨rfl, hb⟩
  have HE1 := Lib.hid (HE0.out.keep hb)
  have HB1 := Lib.hid (below_next HB0.out hb)
  clear HE0 HB0
  clear hb KA
  go_wp2_with fail
  refine (scan_bad s a er w1 HE1.out hn1 HSC.out).mono ?_
  rintro e w2 ⟨rfl, hb⟩
  go_wp2_with fail
  go_ret
  exact ⟨rfl, below_next HB1.out hb⟩
set_option maxRecDepth 100000 in
set_option maxHeartbeats 8000000 in
theorem spaces_toks (s : ByteArray) (w : World) (hE : LexEnv w) (hs : s.size ≤ 400) (ts : List Lex.Tok) (hsc : Lex.scan s.data.toList = .toks ts) : Calls Tryz.prog 7 #[.string s] w fun e w' => e = .returned (.bool true) ∧ Below w.heap.size w w' := by
  have hl0 := (scan_tkl hsc).2.2.1
  have hl1 := (scan_tkl hsc).2.2.2
  have HNE : Hid (ts ≠ []) := Lib.hid (fun h => by rw [h] at hl0; simp at hl0)
  obtain ⟨hfl, ts2, hsc2, hre⟩ := Pa.spaces hsc (by rw [← Lib.size_eq]; exact hs)
  obtain ⟨u, hu⟩ : ∃ u : ByteArray, u = ⟨(fmtL ts).toArray⟩ := ⟨_, rfl⟩
  have hud : u.data.toList = fmtL ts := by rw [hu]
  have hus : u.size ≤ 800 := by rw [Lib.size_eq, hud]; exact hfl
  rw [← hud] at hsc2
  have HSC := Lib.hid hsc
  have HSC2 := Lib.hid hsc2
  have HRE := Lib.hid hre
  have HU := Lib.hid hu
  have HFL := Lib.hid hfl
  have hn2 : u.size ≤ 9223372036854775800 := by omega
  obtain ⟨NT, hNT⟩ : ∃ q, ts.length = q := ⟨_, rfl⟩
  have HNT := Lib.hid hNT
  have HL1 := Lib.hid hl1
  have HSS := Lib.hid hs
  have HUS := Lib.hid hus
  clear hsc hsc2 hre hu hud hfl hl0 hl1 hNT
  have hn1 : s.size ≤ 9223372036854775800 := by omega
  have HE0 := Lib.hid hE
  have HB0 := Lib.hid (Below.refl w.heap.size w)
  have KA := Lib.hid (awake39_any w hE)
  clear hE
  go_enter Tryz.func7, Tryz.ntmps7
  go_wp2_with fail
  refine KA.out.mono ?_
  rintro e w1 ⟨rfl, hb⟩
  have HE1 := Lib.hid (HE0.out.keep hb)
  have HB1 := Lib.hid (below_next HB0.out hb)
  clear HE0 HB0
  clear hb KA
  go_wp2_with fail
  refine (scan_toks2 s ts w1 HE1.out (by omega) HSC.out HNE.out).mono ?_
  rintro e w2 ⟨g, cap, rfl, hcap, hta, hg1, hg2, hb⟩
  have HE2 := Lib.hid (HE1.out.keep hb)
  have HB2 := Lib.hid (below_next HB1.out hb)
  clear HE1 HB1
  have KF := format_any g cap ts w2 hg2 hta (by have := HL1.out; omega) (by have := HFL.out; omega)
  rw [HNT.out] at KF hcap ⊢
  rw [← HU.out] at KF
  have HKF := Lib.hid KF
  clear KF hb hta hcap hg1 hg2
  go_wp2_with fail
  refine HKF.out.mono ?_
  rintro e w3 ⟨rfl, hb⟩
  have HE3 := Lib.hid (HE2.out.keep hb)
  have HB3 := Lib.hid (below_next HB2.out hb)
  clear HE2 HB2
  clear hb HKF
  go_wp2_with fail
  refine (topP_any s w3 HE3.out hn1).mono ?_
  intro e w4 hp
  obtain ⟨hb, x1, p1, N1, c1, o1, e1, rfl, HS1, HP1⟩ := topP_po hp
  clear hp
  have HE4 := Lib.hid (HE3.out.keep hb)
  have HB4 := Lib.hid (below_next HB3.out hb)
  clear HE3 HB3
  clear hb
  obtain ⟨w5, HW⟩ : ∃ q, Hid (q = w4.alloc (.cells #[.slice p1 N1 c1] 25)) := ⟨_, Lib.hid rfl⟩
  obtain ⟨b1, hbq⟩ : ∃ q, q = w4.heap.size := ⟨_, rfl⟩
  have hb : Below w4.heap.size w4 w5 := by rw [HW.out]; exact below_box _ _
  have HE5 := Lib.hid (HE4.out.keep hb)
  have HB5 := Lib.hid (below_next HB4.out hb)
  clear HE4 HB4
  have HV1 : Hid (w5.cell? ⟨b1, 0, none⟩ = some (.slice p1 N1 c1)) := by rw [HW.out, hbq]; exact box_cell _ _ _ 0 _ rfl
  have HK1 := Lib.hid (HS1.out.keep hb)
  have HQ1 := Lib.hid hbq
  clear hb HS1 hbq
  go_wp2_with fail
  rw [← HQ1.out, ← HW.out]
  clear HW HQ1
  refine (topP_any u w5 HE5.out hn2).mono ?_
  intro e w6 hp
  obtain ⟨hb, x2, p2, N2, c2, o2, e2, rfl, HS2, HP2⟩ := topP_po hp
  clear hp
  have HE6 := Lib.hid (HE5.out.keep hb)
  have HB6 := Lib.hid (below_next HB5.out hb)
  clear HE5 HB5
  have HK1 := Lib.hid (HK1.out.keep hb)
  have HV1 := Lib.hid (cell_keep' hb HV1.out)
  clear hb
  obtain ⟨w7, HW⟩ : ∃ q, Hid (q = w6.alloc (.cells #[.slice p2 N2 c2] 25)) := ⟨_, Lib.hid rfl⟩
  obtain ⟨b2, hbq⟩ : ∃ q, q = w6.heap.size := ⟨_, rfl⟩
  have hb : Below w6.heap.size w6 w7 := by rw [HW.out]; exact below_box _ _
  have HE7 := Lib.hid (HE6.out.keep hb)
  have HB7 := Lib.hid (below_next HB6.out hb)
  clear HE6 HB6
  have HK1 := Lib.hid (HK1.out.keep hb)
  have HV1 := Lib.hid (cell_keep' hb HV1.out)
  have HV2 : Hid (w7.cell? ⟨b2, 0, none⟩ = some (.slice p2 N2 c2)) := by rw [HW.out, hbq]; exact box_cell _ _ _ 0 _ rfl
  have HK2 := Lib.hid (HS2.out.keep hb)
  have HQ2 := Lib.hid hbq
  clear hb HS2 hbq
  go_wp2_with fail
  rw [← HQ2.out, ← HW.out]
  clear HW HQ2
  refine (topE_any s w7 HE7.out hn1).mono ?_
  intro e w8 hp
  obtain ⟨hb, x3, p3, N3, c3, o3, e3, rfl, HS3, HP3⟩ := topE_eo hp
  clear hp
  have HE8 := Lib.hid (HE7.out.keep hb)
  have HB8 := Lib.hid (below_next HB7.out hb)
  clear HE7 HB7
  have HK1 := Lib.hid (HK1.out.keep hb)
  have HK2 := Lib.hid (HK2.out.keep hb)
  have HV1 := Lib.hid (cell_keep' hb HV1.out)
  have HV2 := Lib.hid (cell_keep' hb HV2.out)
  clear hb
  obtain ⟨w9, HW⟩ : ∃ q, Hid (q = w8.alloc (.cells #[.int .i64 x3.kind, .int .i64 x3.op, .int .i64 x3.int, .string x3.name, .bool x3.at_, .slice p3 N3 c3] 33)) := ⟨_, Lib.hid rfl⟩
  obtain ⟨b3, hbq⟩ : ∃ q, q = w8.heap.size := ⟨_, rfl⟩
  have hb : Below w8.heap.size w8 w9 := by rw [HW.out]; exact below_box _ _
  have HE9 := Lib.hid (HE8.out.keep hb)
  have HB9 := Lib.hid (below_next HB8.out hb)
  clear HE8 HB8
  have HK1 := Lib.hid (HK1.out.keep hb)
  have HK2 := Lib.hid (HK2.out.keep hb)
  have HV1 := Lib.hid (cell_keep' hb HV1.out)
  have HV2 := Lib.hid (cell_keep' hb HV2.out)
  have HV30 : Hid (w9.cell? ⟨b3, 0, none⟩ = some (.int .i64 x3.kind)) := by rw [HW.out, hbq]; exact box_cell _ _ _ 0 _ rfl
  have HV31 : Hid (w9.cell? ⟨b3, 1, none⟩ = some (.int .i64 x3.op)) := by rw [HW.out, hbq]; exact box_cell _ _ _ 1 _ rfl
  have HV32 : Hid (w9.cell? ⟨b3, 2, none⟩ = some (.int .i64 x3.int)) := by rw [HW.out, hbq]; exact box_cell _ _ _ 2 _ rfl
  have HV33 : Hid (w9.cell? ⟨b3, 3, none⟩ = some (.string x3.name)) := by rw [HW.out, hbq]; exact box_cell _ _ _ 3 _ rfl
  have HV34 : Hid (w9.cell? ⟨b3, 4, none⟩ = some (.bool x3.at_)) := by rw [HW.out, hbq]; exact box_cell _ _ _ 4 _ rfl
  have HV35 : Hid (w9.cell? ⟨b3, 5, none⟩ = some (.slice p3 N3 c3)) := by rw [HW.out, hbq]; exact box_cell _ _ _ 5 _ rfl
  have HK3 := Lib.hid (HS3.out.keep hb)
  have HQ3 := Lib.hid hbq
  clear hb HS3 hbq
  go_wp2_with fail
  rw [← HQ3.out, ← HW.out]
  clear HW HQ3
  refine (topE_any u w9 HE9.out hn2).mono ?_
  intro e w10 hp
  obtain ⟨hb, x4, p4, N4, c4, o4, e4, rfl, HS4, HP4⟩ := topE_eo hp
  clear hp
  have HE10 := Lib.hid (HE9.out.keep hb)
  have HB10 := Lib.hid (below_next HB9.out hb)
  clear HE9 HB9
  have HK1 := Lib.hid (HK1.out.keep hb)
  have HK2 := Lib.hid (HK2.out.keep hb)
  have HK3 := Lib.hid (HK3.out.keep hb)
  have HV1 := Lib.hid (cell_keep' hb HV1.out)
  have HV2 := Lib.hid (cell_keep' hb HV2.out)
  have HV30 := Lib.hid (cell_keep' hb HV30.out)
  have HV31 := Lib.hid (cell_keep' hb HV31.out)
  have HV32 := Lib.hid (cell_keep' hb HV32.out)
  have HV33 := Lib.hid (cell_keep' hb HV33.out)
  have HV34 := Lib.hid (cell_keep' hb HV34.out)
  have HV35 := Lib.hid (cell_keep' hb HV35.out)
  clear hb
  obtain ⟨w11, HW⟩ : ∃ q, Hid (q = w10.alloc (.cells #[.int .i64 x4.kind, .int .i64 x4.op, .int .i64 x4.int, .string x4.name, .bool x4.at_, .slice p4 N4 c4] 33)) := ⟨_, Lib.hid rfl⟩
  obtain ⟨b4, hbq⟩ : ∃ q, q = w10.heap.size := ⟨_, rfl⟩
  have hb : Below w10.heap.size w10 w11 := by rw [HW.out]; exact below_box _ _
  have HE11 := Lib.hid (HE10.out.keep hb)
  have HB11 := Lib.hid (below_next HB10.out hb)
  clear HE10 HB10
  have HK1 := Lib.hid (HK1.out.keep hb)
  have HK2 := Lib.hid (HK2.out.keep hb)
  have HK3 := Lib.hid (HK3.out.keep hb)
  have HV1 := Lib.hid (cell_keep' hb HV1.out)
  have HV2 := Lib.hid (cell_keep' hb HV2.out)
  have HV30 := Lib.hid (cell_keep' hb HV30.out)
  have HV31 := Lib.hid (cell_keep' hb HV31.out)
  have HV32 := Lib.hid (cell_keep' hb HV32.out)
  have HV33 := Lib.hid (cell_keep' hb HV33.out)
  have HV34 := Lib.hid (cell_keep' hb HV34.out)
  have HV35 := Lib.hid (cell_keep' hb HV35.out)
  have HV40 : Hid (w11.cell? ⟨b4, 0, none⟩ = some (.int .i64 x4.kind)) := by rw [HW.out, hbq]; exact box_cell _ _ _ 0 _ rfl
  have HV41 : Hid (w11.cell? ⟨b4, 1, none⟩ = some (.int .i64 x4.op)) := by rw [HW.out, hbq]; exact box_cell _ _ _ 1 _ rfl
  have HV42 : Hid (w11.cell? ⟨b4, 2, none⟩ = some (.int .i64 x4.int)) := by rw [HW.out, hbq]; exact box_cell _ _ _ 2 _ rfl
  have HV43 : Hid (w11.cell? ⟨b4, 3, none⟩ = some (.string x4.name)) := by rw [HW.out, hbq]; exact box_cell _ _ _ 3 _ rfl
  have HV44 : Hid (w11.cell? ⟨b4, 4, none⟩ = some (.bool x4.at_)) := by rw [HW.out, hbq]; exact box_cell _ _ _ 4 _ rfl
  have HV45 : Hid (w11.cell? ⟨b4, 5, none⟩ = some (.slice p4 N4 c4)) := by rw [HW.out, hbq]; exact box_cell _ _ _ 5 _ rfl
  have HK4 := Lib.hid (HS4.out.keep hb)
  have HQ4 := Lib.hid hbq
  clear hb HS4 hbq
  obtain ⟨h4, h5⟩ := Pa.PO.same HP1.out HP2.out HSC.out HSC2.out (by rw [← Lib.size_eq]; have := HSS.out; omega) (by rw [← Lib.size_eq]; have := HUS.out; omega) HRE.out
  obtain ⟨h6, h7⟩ := Pa.EO.same HP3.out HP4.out HSC.out HSC2.out HRE.out
  have kq := equal_any _ _ _ _ _ HK1.out HK2.out
  rw [(Sy.sameCs_iff _ _).2 h4] at kq
  have KQ := Lib.hid kq
  have KX : Hid (∀ W, Below w11.heap.size w11 W → Calls Tryz.prog 19 #[.agg #[.int .i64 x3.kind, .int .i64 x3.op, .int .i64 x3.int, .string x3.name, .bool x3.at_, .slice p3 N3 c3], .agg #[.int .i64 x4.kind, .int .i64 x4.op, .int .i64 x4.int, .string x4.name, .bool x4.at_, .slice p4 N4 c4]] W fun r w' => r = .returned (.bool true) ∧ Below W.heap.size W w') := Lib.hid (fun W hb => by
    have k := equalExpr_any x3.deep x3 x4 _ _ W (Nat.le_refl _) (HK3.out.keep hb) (HK4.out.keep hb)
    rw [(Sy.sameE_iff _ _).2 h6] at k
    exact k)
  have k1 : ((e1 : Int) == (e2 : Int)) = true := by rw [show (e2 : Int) = ((e2 : Nat) : Int) from rfl]; first | rw [ibne, decide_eq_true (h5)]; rfl | rw [ibne, decide_eq_false (h5)]; rfl | rw [ibeq, decide_eq_true (h5)] | rw [ibeq, decide_eq_false (h5)]
  have k2 : ((e3 : Int) == (e4 : Int)) = true := by rw [show (e4 : Int) = ((e4 : Nat) : Int) from rfl]; first | rw [ibne, decide_eq_true (h7)]; rfl | rw [ibne, decide_eq_false (h7)]; rfl | rw [ibeq, decide_eq_true (h7)] | rw [ibeq, decide_eq_false (h7)]
  clear kq h4 h5 h6 h7 HP1 HP2 HP3 HP4
  go_upto_region 13 with fail
  rw [← HQ4.out, ← HW.out]
  clear HW HQ4
  have v1 := HV1.out
  have v2 := HV2.out
  go_wp2_with fail
  refine KQ.out.mono ?_
  rintro e w12 ⟨rfl, hb12⟩
  have v30 := cell_keep' hb12 HV30.out
  have v31 := cell_keep' hb12 HV31.out
  have v32 := cell_keep' hb12 HV32.out
  have v33 := cell_keep' hb12 HV33.out
  have v34 := cell_keep' hb12 HV34.out
  have v35 := cell_keep' hb12 HV35.out
  have v40 := cell_keep' hb12 HV40.out
  have v41 := cell_keep' hb12 HV41.out
  have v42 := cell_keep' hb12 HV42.out
  have v43 := cell_keep' hb12 HV43.out
  have v44 := cell_keep' hb12 HV44.out
  have v45 := cell_keep' hb12 HV45.out
  go_wp2_with fail
  refine (KX.out _ hb12).mono ?_
  rintro e w13 ⟨rfl, hb13⟩
  go_wp2_with fail
  go_ret
  exact ⟨rfl, below_next HB11.out (below_next hb12 hb13)⟩
set_option maxRecDepth 100000 in
set_option maxHeartbeats 8000000 in
theorem spaces_far (s : ByteArray) (w : World) (hE : LexEnv w) (hf : 400 < s.size) : Calls Tryz.prog 7 #[.string s] w fun e w' => e = .returned (.bool true) ∧ Below w.heap.size w w' := by
  have KA := Lib.hid (awake39_any w hE)
  clear hE
  go_enter Tryz.func7, Tryz.ntmps7
  go_wp2_with fail
  refine KA.out.mono ?_
  rintro e w1 ⟨rfl, hb1⟩
  go_wp2_with fail
  go_ret
  exact ⟨rfl, hb1⟩
theorem law_spaces (s : ByteArray) (w : World) (hE : LexEnv w) : Calls Tryz.prog 7 #[.string s] w fun e w' => e = .returned (.bool true) ∧ Below w.heap.size w w' := by
  by_cases hs : s.size ≤ 400
  · cases hsc : Lex.scan s.data.toList with
    | bad a er => exact spaces_bad s w hE hs a er hsc
    | toks ts => exact spaces_toks s w hE hs ts hsc
  · exact spaces_far s w hE (by omega)
end Go.Proofs.YtdckddkalgnlpaaGreatDoor
namespace Go.Proofs.YtdckddkalgnlpaaGreatDoor
open Go.RowKit Go.ChangeShapes Go.WideShapes
theorem laidVars_at {P : Program} {W : World} : ∀ {l : List (String × DataW Unit)} {ps : List MemPlace}, DataW.LaidVars P W l ps → ∀ {n : String} {d : DataW Unit}, (n, d) ∈ l →
    ∃ g t cs fuel p, P.globalNamed n = some g ∧ (P.globals[g]?).map (·.type) = some t ∧ W.var? P n = some cs ∧ DataW.trod (fun _ => ()) P W 0 (fun _ => true) false fuel t cs.toList = some (d, p)
  | [], _, _, _, _, hm => by simp at hm
  | (n', d') :: r, ps, h, n, d, hm => by
    obtain ⟨g, t, cs, fuel, p, q, h1, h2, h3, h4, h5, _⟩ := h
    rcases List.mem_cons.1 hm with e | hm
    · cases e
      exact ⟨g, t, cs, fuel, p, h1, h2, h3, h4⟩
    · exact laidVars_at h5 hm
theorem laid_at {P : Program} {W : World} {l : List (String × DataW Unit)} (h : laidMet P l W) {n : String} {d : DataW Unit} (hm : (n, d) ∈ l) :
    ∃ g t cs fuel p, P.globalNamed n = some g ∧ (P.globals[g]?).map (·.type) = some t ∧ W.var? P n = some cs ∧ DataW.trod (fun _ => ()) P W 0 (fun _ => true) false fuel t cs.toList = some (d, p) := by
  obtain ⟨ps, h1, _⟩ := h
  exact laidVars_at h1 hm
/-- a slice of strings that is listed: its cells -/
theorem strings_at {W : World} {l : List (String × DataW Unit)} (h : laidMet Tryz.prog l W) {n : String} {g : Nat} (ls : List (List UInt8)) (hne : ls ≠ [])
    (hm : (n, DataW.slice (ls.map fun x => .lit (.string x)) []) ∈ l) (hg : Tryz.prog.globalNamed n = some g) (hty : (Tryz.prog.globals[g]?).map (·.type) = some 46) (hcs : Tryz.prog.cellsOf 9 = 1) :
    ∃ b o c, W.cell? ⟨g, 0, none⟩ = some (.slice (some ⟨b, o, none⟩) ls.length c) ∧ ∀ j, j < ls.length → W.cell? ⟨b, o + j, none⟩ = some (.string ⟨(ls.getD j []).toArray⟩) := by
  obtain ⟨g', t, cs, fuel, p, h1, h2, h3, h4⟩ := laid_at h hm
  obtain rfl : g = g' := Option.some.inj (hg.symm.trans h1)
  obtain rfl : t = 46 := (Option.some.inj (hty.symm.trans h2)).symm
  rcases open_strings Tryz.underlying46 Tryz.underlying9 hcs h4 with ⟨_, hx⟩ | ⟨a, len, cap, ss, hcs2, _, hl, hm2, hz, hx, hcell, _⟩
  · cases hx
  · have hc0 := World.var?_cell hg h3 0
    have hcs3 : cs[0]? = some (.slice (some a) len cap) := by
      rw [← Array.getElem?_toList, hcs2]; rfl
    rw [hcs3] at hc0
    simp only [Prod.mk.injEq, DataW.slice.injEq] at hx
    obtain ⟨⟨e1, e2⟩, _⟩ := hx
    have hss : (ss.take len).map (fun s => s.data.toList) = ls := by
      have h5 : ∀ (zs : List ByteArray) (ys : List (List UInt8)), ys.map (fun x => (DataW.lit (.string x) : DataW Unit)) = strs zs → zs.map (fun s => s.data.toList) = ys := by
        intro zs
        induction zs with
        | nil => intro ys hy; cases ys with | nil => rfl | cons _ _ => simp [strs] at hy
        | cons z zs ih =>
          intro ys hy
          cases ys with
          | nil => simp [strs] at hy
          | cons y ys =>
            simp only [strs, List.map_cons, List.cons.injEq, DataW.lit.injEq, Lit.string.injEq] at hy ⊢
            exact ⟨hy.1.symm, ih ys hy.2⟩
      exact h5 _ _ e1
    have hslen : ss.length = cap := by simpa using hz
    have hlen : len = ls.length := by
      rw [← hss, List.length_map, List.length_take, hslen]; omega
    have hpos : 0 < ss.length := by
      have : 0 < ls.length := List.length_pos_iff.2 hne
      omega
    obtain ⟨b, o, sp⟩ := a
    have hsp : sp = none := by
      have h6 := hcell 0 hpos
      unfold World.cell? at h6
      cases sp with
      | none => rfl
      | some k =>
        exfalso
        have hsome : ((⟨b, o, some k⟩ : Addr).add 0).spot.isSome = true := by unfold Addr.add; split <;> simp_all
        rw [hsome] at h6
        split at h6
        · simp at h6
        · cases h6
    subst hsp
    refine ⟨b, o, cap, by rw [hc0, hlen], fun j hj => ?_⟩
    have h6 := hcell j (by omega)
    have hadd : (⟨b, o, none⟩ : Addr).add j = ⟨b, o + j, none⟩ := by unfold Addr.add; split <;> simp_all
    rw [hadd] at h6
    rw [h6]
    have h7 : (ls.getD j []) = (ss.getD j ByteArray.empty).data.toList := by
      have hj2 : j < ss.length := by omega
      rw [← hss, List.getD_eq_getElem?_getD, List.getElem?_map, List.getElem?_take, if_pos (by omega), List.getElem?_eq_getElem hj2, List.getD_eq_getElem?_getD, List.getElem?_eq_getElem hj2]
      rfl
    rw [h7]
theorem iface_at {W : World} {l : List (String × DataW Unit)} (h : laidMet Tryz.prog l W) {n : String} {g : Nat} {nm : String} {d : DataW Unit} {ti : TypeId} {ms : Array (String × TypeId)}
    (hm : (n, DataW.iface nm d) ∈ l) (hg : Tryz.prog.globalNamed n = some g) (hty : (Tryz.prog.globals[g]?).map (·.type) = some ti) (hi : Tryz.prog.underlying ti = some (.interface ms)) :
    ∃ te pe, W.cell? ⟨g, 0, none⟩ = some (.iface te pe) := by
  obtain ⟨g', t, cs, fuel, p, h1, h2, h3, h4⟩ := laid_at h hm
  obtain rfl : g = g' := Option.some.inj (hg.symm.trans h1)
  obtain rfl : t = ti := (Option.some.inj (hty.symm.trans h2)).symm
  obtain ⟨_, u, v, hcs2, _⟩ := iface_of_trod hi h4
  have hc0 := World.var?_cell hg h3 0
  have hcs3 : cs[0]? = some (.iface u v) := by
    rw [← Array.getElem?_toList, hcs2]; rfl
  exact ⟨u, v, by rw [hc0, hcs3]⟩
theorem lexEnv_of {W : World} (h : laidMetH Tryz.prog Rows.parserOffsetsRow.laid W) : LexEnv W := by
  have hl : laidMet Tryz.prog Rows.parserOffsetsRow.laid W := h
  have hk := strings_at hl (g := 3) Lex.keywords (by decide) (List.mem_of_getElem? (i := 6) rfl) (by kernel_rfl) (by kernel_rfl) (by kernel_rfl)
  have hs := strings_at hl (g := 1) Lex.symbols (by decide) (List.mem_of_getElem? (i := 7) rfl) (by kernel_rfl) (by kernel_rfl) (by kernel_rfl)
  exact ⟨hk, hs, iface_at hl (g := 6) (List.mem_of_getElem? (i := 4) rfl) (by kernel_rfl) (by kernel_rfl) Tryz.underlying123⟩
end Go.Proofs.YtdckddkalgnlpaaGreatDoor
namespace Go.Proofs.YtdckddkalgnlpaaGreatDoor
open Go.RowKit Go.WideShapes Go.ChangeShapes
section
variable {H : Type} {enc : TypeId × Value → H} {P : Program}
/-- The row's last step, of a call that has turned nothing that was there. -/
theorem post_kept {f : Func} {s : ChangeSpec} {apart fresh handsOn again : Bool} {W W' : World} {args : Array Value} {v : Value} {ds gs : List (DataW H)} {before pa pv : List MemPlace}
    (hW : DataW.Whole enc P f.params.toList s.vars apart W args.toList ds gs before) (hb : Below W.heap.size W W')
    (hres : ∀ (b : Nat) (sp : Nat → Bool) (hd : Bool), DataW.TrodAll enc P W' b sp hd f.resultTypes.toList (v.resultList f.resultTypes.size) (s.fn H (ds ++ gs)).results [])
    (hargs : ∀ sp : Nat → Bool, (∀ p ∈ before, sp p.block = true) → DataW.TrodAll enc P W' 0 sp true f.params.toList args.toList (s.fn H (ds ++ gs)).args pa)
    (hvars : ∀ sp : Nat → Bool, (∀ p ∈ before, sp p.block = true) → DataW.TrodVars enc P W' sp s.vars (s.fn H (ds ++ gs)).vars pv)
    (hps : before = pa ++ pv)
    (hok : ∀ (j : Nat) (t : TypeId) (r : Value), f.resultTypes[j]? = some t → (v.resultList f.resultTypes.size)[j]? = some r → Value.okWide P W' .any 0 t r) :
    s.post enc P f apart fresh handsOn again W args v W' := by
  subst hps
  have old : ∀ p ∈ pa ++ pv, decide (p.block < W.heap.size) = true := fun p hp => decide_eq_true (hW.lt p hp)
  refine ⟨ds, gs, pa ++ pv, [], pa, pv, hW, hres _ _ _, hargs (fun b => decide (b < W.heap.size)) old, hvars (fun b => decide (b < W.heap.size)) old, World.keptBut_mono (fun p hp => ⟨hp, .inr (List.mem_append.1 hp)⟩) (hb.frame (· ∈ pa ++ pv)), fun _ => ⟨hok, ?_⟩⟩
  obtain ⟨_, _, _, _, _, hz, hn⟩ := hW
  refine ⟨_, _, ([] ++ pa) ++ pv, ⟨[] ++ pa, pv, trodAll_append (hargs _ (fun _ _ => rfl)) (hres _ _ _), hvars _ (fun _ _ => rfl), rfl, fun b off hp => ?_, fun ha => ?_⟩, fun p hp _ => by simpa using hp⟩
  · have hin : MemPlace.cell b off ∈ pa ++ pv := by simpa using hp
    rw [hb.frozen (of_decide_eq_true (old _ hin))]
    exact hz b off hin
  · simpa using hn ha
end
theorem own : ownKnob Tryz.prog.godebug = none := by kernel_rfl
/-- integers out of a datum that is a row of them -/
def rowOf : DataW Unit → List Value
  | .agg l => l.map fun | .lit (.int k n) => .int k n | _ => .nilIface
  | _ => []
def rowsOf : DataW Unit → List Value
  | .agg l => l.flatMap rowOf
  | _ => []
def strsOf (l : List (List UInt8)) : Array Value := (l.map fun x => Value.string ⟨x.toArray⟩).toArray
/-- A world for the witness: the settled one, the listed variables holding what their initialisers lay. -/
noncomputable def laidWorld (os : Os) : World :=
  let N := (World.settled Tryz.prog os).heap.size
  let w0 := World.holding Tryz.prog os ⟨#[
    .cells (strsOf Lex.keywords) 9, .cells (strsOf Lex.symbols) 9,
    .cells #[.string ⟨#[105, 110, 118, 97, 108, 105, 100, 32, 115, 121, 110, 116, 97, 120]⟩] 227,
    .cells #[.string ⟨#[118, 97, 108, 117, 101, 32, 111, 117, 116, 32, 111, 102, 32, 114, 97, 110, 103, 101]⟩] 227], #[], []⟩
  let put (h : Array Obj) (g : Nat) (cs : Array Value) : Array Obj := h.modify g fun
    | .cells _ t frozen => .cells cs t frozen
    | o => o
  let h := put w0.heap 3 #[.slice (some ⟨N, 0, none⟩) 24 24]
  let h := put h 1 #[.slice (some ⟨N + 1, 0, none⟩) 19 19]
  let h := put h 5 #[.iface 225 (.pointer (some ⟨N + 2, 0, none⟩))]
  let h := put h 6 #[.iface 225 (.pointer (some ⟨N + 3, 0, none⟩))]
  let h := put h 7 (rowOf Go.Pinned.utf8First).toArray
  let h := put h 8 (rowsOf Rows.laid_unicode_utf8_acceptRanges).toArray
  let h := put h 9 (rowOf Rows.laid_internal_strconv_uint64pow10).toArray
  let h := put h 10 (rowOf Rows.laid_math_bits_deBruijn32tab).toArray
  let h := put h 11 (rowOf Rows.laid_math_bits_deBruijn64tab).toArray
  { w0 with heap := h }
theorem laid_met (os : Os) (args : Array Value) : laidMet Tryz.prog Rows.parserOffsetsRow.laid ((laidWorld os).forCall (fun _ _ => 0) ⟨#[], args, []⟩).memory :=
  laidMet_of_run' 8 (by kernel_rfl) (by kernel_rfl)
end Go.Proofs.YtdckddkalgnlpaaGreatDoor
