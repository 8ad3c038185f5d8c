/-
  Several texts in one: PrLaw, PaEnv, PaCardBase.
-/
import Derived.Test.YtdckddkalgnlpaaGreatDoorA35
import Derived.Test.YtdckddkalgnlpaaGreatDoorA36
import Derived.Test.YtdckddkalgnlpaaGreatDoorA38
import Derived.Test.YtdckddkalgnlpaaGreatDoorA3
import Derived.Test.YtdckddkalgnlpaaGreatDoorCards
import Derived.ProofKit
import Derived.OpenShut
import Derived.SliceStrings
import Derived.LaidLaws
import Derived.Test.YtdckddkalgnlpaaGreatDoorTie
import Derived.Below
import Derived.ChangeSame
import Derived.Deep.DeepHandedRow
import Derived.Deep.DeepWitnessRowRef
import Derived.Lib.LaidTab
namespace Go.Proofs.YtdckddkalgnlpaaGreatDoor
open Go.RowKit Go.Maps Pw
theorem Pa.PO.det {s : Pa.Bytes} {x y : List Tr.C} {o er o' er' : Nat} (h : Pa.PO s x o er) (h' : Pa.PO s y o' er') : x = y ∧ o = o' ∧ er = er' := by
 rcases h with ⟨h, rfl⟩ | ⟨ts, h, a, s1, rfl, rfl⟩ | ⟨ts, z, h, a, s1, rfl, rfl, rfl⟩ | ⟨ts, k, u, h, a, hk, hu, rfl, rfl, rfl⟩ <;> rcases h' with ⟨h', rfl⟩ | ⟨ts', h', a', s1', rfl, rfl⟩ | ⟨ts', z', h', a', s1', rfl, rfl, rfl⟩ | ⟨ts', k', u', h', a', hk', hu', rfl, rfl, rfl⟩ <;> rw [h] at h' <;> cases h'
 all_goals first
  | exact ⟨rfl, rfl, rfl⟩
  | (have e := Pa.Ev.det a a'; cases e; done)
  | (have e := Pa.Ev.det a a'; cases e; first | exact ⟨rfl, rfl, rfl⟩ | (exfalso; omega))
  | (have e := Pa.Ev.det a a'; injection e with e; obtain rfl := Pa.rest_inj (scan_tkl h).1 hk hk' e; rw [hu] at hu'; cases hu'; exact ⟨rfl, rfl, rfl⟩)
theorem Pa.EO.det {s : Pa.Bytes} {x y : Tr.E} {o er o' er' : Nat} (h : Pa.EO s x o er) (h' : Pa.EO s y o' er') : x = y ∧ o = o' ∧ er = er' := by
 rcases h with ⟨h, rfl⟩ | ⟨ts, h, a, s1, rfl, rfl⟩ | ⟨ts, z, h, a, s1, rfl, rfl, rfl⟩ | ⟨ts, k, u, h, a, hk, hu, rfl, rfl, rfl⟩ <;> rcases h' with ⟨h', rfl⟩ | ⟨ts', h', a', s1', rfl, rfl⟩ | ⟨ts', z', h', a', s1', rfl, rfl, rfl⟩ | ⟨ts', k', u', h', a', hk', hu', rfl, rfl, rfl⟩ <;> rw [h] at h' <;> cases h'
 all_goals first
  | exact ⟨rfl, rfl, rfl⟩
  | (have e := Pa.Ev.det a a'; cases e; done)
  | (have e := Pa.Ev.det a a'; cases e; first | exact ⟨rfl, rfl, rfl⟩ | (exfalso; omega))
  | (have e := Pa.Ev.det a a'; injection e with e; obtain rfl := Pa.rest_inj (scan_tkl h).1 hk hk' e; rw [hu] at hu'; cases hu'; exact ⟨rfl, rfl, rfl⟩)
set_option maxRecDepth 100000 in
set_option maxHeartbeats 8000000 in
theorem programs_near (s : ByteArray) (w : World) (hE : LexEnv w) (hs : s.size ≤ 600) : Calls Tryz.prog 3 #[.string s] w fun e w' => e = .returned (.bool true) ∧ Below w.heap.size w w' := by
 have hn1 : s.size ≤ 9223372036854775800 := by omega
 have HE0 := Lib.hid hE
 have HB0 := Lib.hid (Below.refl w.heap.size w)
 have KA := Lib.hid (awake39_any w hE)
 clear hE
 go_enter Tryz.func3, Tryz.ntmps3
 go_wp2_with fail
 refine KA.out.mono ?_
 rintro e w1 ⟨rfl, hb⟩
 have HE1 := Lib.hid (HE0.out.keep hb)
 have HB1 := Lib.hid (below_next HB0.out hb)
 clear HE0 HB0
 clear hb KA
 go_wp2_with fail
 refine (topP_any s w1 HE1.out hn1).mono ?_
 intro e w2 hp
 obtain ⟨hb, x1, p1, N1, c1, o1, e1, rfl, HS1, HP1⟩ := topP_po hp
 clear hp
 have HE2 := Lib.hid (HE1.out.keep hb)
 have HB2 := Lib.hid (below_next HB1.out hb)
 clear HE1 HB1
 clear hb
 obtain ⟨w3, HW⟩ : ∃ q, Hid (q = w2.alloc (.cells #[.slice p1 N1 c1] 25)) := ⟨_, Lib.hid rfl⟩
 obtain ⟨b1, hbq⟩ : ∃ q, q = w2.heap.size := ⟨_, rfl⟩
 have hb : Below w2.heap.size w2 w3 := by rw [HW.out]; exact below_box _ _
 have HE3 := Lib.hid (HE2.out.keep hb)
 have HB3 := Lib.hid (below_next HB2.out hb)
 clear HE2 HB2
 have HV1 : Hid (w3.cell? ⟨b1, 0, none⟩ = some (.slice p1 N1 c1)) := by rw [HW.out, hbq]; exact box_cell _ _ _ 0 _ rfl
 have HK1 := Lib.hid (HS1.out.keep hb)
 have HQ1 := Lib.hid hbq
 clear hb HS1 hbq
 go_wp2_with fail
 rw [← HQ1.out, ← HW.out]
 clear HW HQ1
 refine (refP_any s w3 hn1).mono ?_
 intro e w4 hp
 obtain ⟨hb, x2, p2, N2, c2, o2, e2, rfl, HS2, HP2⟩ := topP_po hp
 clear hp
 have HE4 := Lib.hid (HE3.out.keep hb)
 have HB4 := Lib.hid (below_next HB3.out hb)
 clear HE3 HB3
 have HK1 := Lib.hid (HK1.out.keep hb)
 have HV1 := Lib.hid (cell_keep' hb HV1.out)
 clear hb
 obtain ⟨w5, HW⟩ : ∃ q, Hid (q = w4.alloc (.cells #[.slice p2 N2 c2] 25)) := ⟨_, Lib.hid rfl⟩
 obtain ⟨b2, hbq⟩ : ∃ q, q = w4.heap.size := ⟨_, rfl⟩
 have hb : Below w4.heap.size w4 w5 := by rw [HW.out]; exact below_box _ _
 have HE5 := Lib.hid (HE4.out.keep hb)
 have HB5 := Lib.hid (below_next HB4.out hb)
 clear HE4 HB4
 have HK1 := Lib.hid (HK1.out.keep hb)
 have HV1 := Lib.hid (cell_keep' hb HV1.out)
 have HV2 : Hid (w5.cell? ⟨b2, 0, none⟩ = some (.slice p2 N2 c2)) := by rw [HW.out, hbq]; exact box_cell _ _ _ 0 _ rfl
 have HK2 := Lib.hid (HS2.out.keep hb)
 have HQ2 := Lib.hid hbq
 clear hb HS2 hbq
 obtain ⟨h4, h5, h6⟩ := Pa.PO.det HP1.out HP2.out
 subst h4
 subst h5
 subst h6
 clear HP1 HP2
 have kq := refSame_any _ _ _ _ _ HK1.out HK2.out
 rw [(Sy.sameCs_iff _ _).2 rfl] at kq
 have KQ := Lib.hid kq
 clear kq
 go_upto_region 7 with fail
 rw [← HQ2.out, ← HW.out]
 clear HW HQ2
 have v1 := HV1.out
 have v2 := HV2.out
 go_wp2_with fail
 refine KQ.out.mono ?_
 rintro e w6 ⟨rfl, hb6⟩
 go_wp2_with fail
 go_ret
 exact ⟨rfl, below_next HB5.out hb6⟩
set_option maxRecDepth 100000 in
set_option maxHeartbeats 8000000 in
theorem programs_far (s : ByteArray) (w : World) (hE : LexEnv w) (hf : 600 < s.size) : Calls Tryz.prog 3 #[.string s] w fun e w' => e = .returned (.bool true) ∧ Below w.heap.size w w' := by
 have KA := Lib.hid (awake39_any w hE)
 clear hE
 go_enter Tryz.func3, Tryz.ntmps3
 go_wp2_with fail
 refine KA.out.mono ?_
 rintro e w1 ⟨rfl, hb1⟩
 go_wp2_with fail
 go_ret
 exact ⟨rfl, hb1⟩
theorem law_programs (s : ByteArray) (w : World) (hE : LexEnv w) : Calls Tryz.prog 3 #[.string s] w fun e w' => e = .returned (.bool true) ∧ Below w.heap.size w w' := by
 by_cases hs : s.size ≤ 600
 ·exact programs_near s w hE hs
 ·exact programs_far s w hE (by omega)
set_option maxRecDepth 100000 in
set_option maxHeartbeats 8000000 in
theorem exprs_near (s : ByteArray) (w : World) (hE : LexEnv w) (hs : s.size ≤ 400) : Calls Tryz.prog 4 #[.string s] w fun e w' => e = .returned (.bool true) ∧ Below w.heap.size w w' := by
 have hn1 : s.size ≤ 9223372036854775800 := by omega
 have HE0 := Lib.hid hE
 have HB0 := Lib.hid (Below.refl w.heap.size w)
 have KA := Lib.hid (awake39_any w hE)
 clear hE
 go_enter Tryz.func4, Tryz.ntmps4
 go_wp2_with fail
 refine KA.out.mono ?_
 rintro e w1 ⟨rfl, hb⟩
 have HE1 := Lib.hid (HE0.out.keep hb)
 have HB1 := Lib.hid (below_next HB0.out hb)
 clear HE0 HB0
 clear hb KA
 go_wp2_with fail
 refine (topE_any s w1 HE1.out hn1).mono ?_
 intro e w2 hp
 obtain ⟨hb, x1, p1, N1, c1, o1, e1, rfl, HS1, HP1⟩ := topE_eo hp
 clear hp
 have HE2 := Lib.hid (HE1.out.keep hb)
 have HB2 := Lib.hid (below_next HB1.out hb)
 clear HE1 HB1
 clear hb
 obtain ⟨w3, HW⟩ : ∃ q, Hid (q = w2.alloc (.cells #[.int .i64 x1.kind, .int .i64 x1.op, .int .i64 x1.int, .string x1.name, .bool x1.at_, .slice p1 N1 c1] 33)) := ⟨_, Lib.hid rfl⟩
 obtain ⟨b1, hbq⟩ : ∃ q, q = w2.heap.size := ⟨_, rfl⟩
 have hb : Below w2.heap.size w2 w3 := by rw [HW.out]; exact below_box _ _
 have HE3 := Lib.hid (HE2.out.keep hb)
 have HB3 := Lib.hid (below_next HB2.out hb)
 clear HE2 HB2
 have HV10 : Hid (w3.cell? ⟨b1, 0, none⟩ = some (.int .i64 x1.kind)) := by rw [HW.out, hbq]; exact box_cell _ _ _ 0 _ rfl
 have HV11 : Hid (w3.cell? ⟨b1, 1, none⟩ = some (.int .i64 x1.op)) := by rw [HW.out, hbq]; exact box_cell _ _ _ 1 _ rfl
 have HV12 : Hid (w3.cell? ⟨b1, 2, none⟩ = some (.int .i64 x1.int)) := by rw [HW.out, hbq]; exact box_cell _ _ _ 2 _ rfl
 have HV13 : Hid (w3.cell? ⟨b1, 3, none⟩ = some (.string x1.name)) := by rw [HW.out, hbq]; exact box_cell _ _ _ 3 _ rfl
 have HV14 : Hid (w3.cell? ⟨b1, 4, none⟩ = some (.bool x1.at_)) := by rw [HW.out, hbq]; exact box_cell _ _ _ 4 _ rfl
 have HV15 : Hid (w3.cell? ⟨b1, 5, none⟩ = some (.slice p1 N1 c1)) := by rw [HW.out, hbq]; exact box_cell _ _ _ 5 _ rfl
 have HK1 := Lib.hid (HS1.out.keep hb)
 have HQ1 := Lib.hid hbq
 clear hb HS1 hbq
 go_wp2_with fail
 rw [← HQ1.out, ← HW.out]
 clear HW HQ1
 refine (refE_any s w3 hn1).mono ?_
 intro e w4 hp
 obtain ⟨hb, x2, p2, N2, c2, o2, e2, rfl, HS2, HP2⟩ := topE_eo hp
 clear hp
 have HE4 := Lib.hid (HE3.out.keep hb)
 have HB4 := Lib.hid (below_next HB3.out hb)
 clear HE3 HB3
 have HK1 := Lib.hid (HK1.out.keep hb)
 have HV10 := Lib.hid (cell_keep' hb HV10.out)
 have HV11 := Lib.hid (cell_keep' hb HV11.out)
 have HV12 := Lib.hid (cell_keep' hb HV12.out)
 have HV13 := Lib.hid (cell_keep' hb HV13.out)
 have HV14 := Lib.hid (cell_keep' hb HV14.out)
 have HV15 := Lib.hid (cell_keep' hb HV15.out)
 clear hb
 obtain ⟨w5, HW⟩ : ∃ q, Hid (q = w4.alloc (.cells #[.int .i64 x2.kind, .int .i64 x2.op, .int .i64 x2.int, .string x2.name, .bool x2.at_, .slice p2 N2 c2] 33)) := ⟨_, Lib.hid rfl⟩
 obtain ⟨b2, hbq⟩ : ∃ q, q = w4.heap.size := ⟨_, rfl⟩
 have hb : Below w4.heap.size w4 w5 := by rw [HW.out]; exact below_box _ _
 have HE5 := Lib.hid (HE4.out.keep hb)
 have HB5 := Lib.hid (below_next HB4.out hb)
 clear HE4 HB4
 have HK1 := Lib.hid (HK1.out.keep hb)
 have HV10 := Lib.hid (cell_keep' hb HV10.out)
 have HV11 := Lib.hid (cell_keep' hb HV11.out)
 have HV12 := Lib.hid (cell_keep' hb HV12.out)
 have HV13 := Lib.hid (cell_keep' hb HV13.out)
 have HV14 := Lib.hid (cell_keep' hb HV14.out)
 have HV15 := Lib.hid (cell_keep' hb HV15.out)
 have HV20 : Hid (w5.cell? ⟨b2, 0, none⟩ = some (.int .i64 x2.kind)) := by rw [HW.out, hbq]; exact box_cell _ _ _ 0 _ rfl
 have HV21 : Hid (w5.cell? ⟨b2, 1, none⟩ = some (.int .i64 x2.op)) := by rw [HW.out, hbq]; exact box_cell _ _ _ 1 _ rfl
 have HV22 : Hid (w5.cell? ⟨b2, 2, none⟩ = some (.int .i64 x2.int)) := by rw [HW.out, hbq]; exact box_cell _ _ _ 2 _ rfl
 have HV23 : Hid (w5.cell? ⟨b2, 3, none⟩ = some (.string x2.name)) := by rw [HW.out, hbq]; exact box_cell _ _ _ 3 _ rfl
 have HV24 : Hid (w5.cell? ⟨b2, 4, none⟩ = some (.bool x2.at_)) := by rw [HW.out, hbq]; exact box_cell _ _ _ 4 _ rfl
 have HV25 : Hid (w5.cell? ⟨b2, 5, none⟩ = some (.slice p2 N2 c2)) := by rw [HW.out, hbq]; exact box_cell _ _ _ 5 _ rfl
 have HK2 := Lib.hid (HS2.out.keep hb)
 have HQ2 := Lib.hid hbq
 clear hb HS2 hbq
 obtain ⟨h4, h5, h6⟩ := Pa.EO.det HP1.out HP2.out
 subst h4
 subst h5
 subst h6
 clear HP1 HP2
 have KQ : Hid (Calls Tryz.prog 15 #[.agg #[.int .i64 x1.kind, .int .i64 x1.op, .int .i64 x1.int, .string x1.name, .bool x1.at_, .slice p1 N1 c1], .agg #[.int .i64 x1.kind, .int .i64 x1.op, .int .i64 x1.int, .string x1.name, .bool x1.at_, .slice p2 N2 c2]] w5 fun r w' => r = .returned (.bool true) ∧ Below w5.heap.size w5 w') := Lib.hid (by
  have k := refSameExpr_any x1.deep x1 x1 _ _ w5 (Nat.le_refl _) HK1.out HK2.out
  rw [(Sy.sameE_iff _ _).2 rfl] at k
  exact k)
 go_upto_region 7 with fail
 rw [← HQ2.out, ← HW.out]
 clear HW HQ2
 have v10 := HV10.out
 have v11 := HV11.out
 have v12 := HV12.out
 have v13 := HV13.out
 have v14 := HV14.out
 have v15 := HV15.out
 have v20 := HV20.out
 have v21 := HV21.out
 have v22 := HV22.out
 have v23 := HV23.out
 have v24 := HV24.out
 have v25 := HV25.out
 go_wp2_with fail
 refine KQ.out.mono ?_
 rintro e w6 ⟨rfl, hb6⟩
 go_wp2_with fail
 go_ret
 exact ⟨rfl, below_next HB5.out hb6⟩
set_option maxRecDepth 100000 in
set_option maxHeartbeats 8000000 in
theorem exprs_far (s : ByteArray) (w : World) (hE : LexEnv w) (hf : 400 < s.size) : Calls Tryz.prog 4 #[.string s] w fun e w' => e = .returned (.bool true) ∧ Below w.heap.size w w' := by
 have KA := Lib.hid (awake39_any w hE)
 clear hE
 go_enter Tryz.func4, Tryz.ntmps4
 go_wp2_with fail
 refine KA.out.mono ?_
 rintro e w1 ⟨rfl, hb1⟩
 go_wp2_with fail
 go_ret
 exact ⟨rfl, hb1⟩
theorem law_exprs (s : ByteArray) (w : World) (hE : LexEnv w) : Calls Tryz.prog 4 #[.string s] w fun e w' => e = .returned (.bool true) ∧ Below w.heap.size w w' := by
 by_cases hs : s.size ≤ 400
 ·exact exprs_near s w hE hs
 ·exact exprs_far s w hE (by omega)
end Go.Proofs.YtdckddkalgnlpaaGreatDoor
namespace Go.Proofs.YtdckddkalgnlpaaGreatDoor
open Go.RowKit Go.ChangeShapes Go.WideShapes
theorem laidVars_at {P : Program} {W : World} : ∀ {l : List (String × DataW Unit)} {ps : List MemPlace}, DataW.LaidVars P W l ps → ∀ {n : String} {d : DataW Unit}, (n, d) ∈ l →
 ∃ g t cs fuel p, P.globalNamed n = some g ∧ (P.globals[g]?).map (·.type) = some t ∧ W.var? P n = some cs ∧ DataW.trod (fun _ => ()) P W 0 (fun _ => true) false fuel t cs.toList = some (d, p)
 | [], _, _, _, _, hm => by simp at hm
 | (n', d') :: r, ps, h, n, d, hm => by
   obtain ⟨g, t, cs, fuel, p, q, h1, h2, h3, h4, h5, _⟩ := h
   rcases List.mem_cons.1 hm with e | hm
   ·cases e
    exact ⟨g, t, cs, fuel, p, h1, h2, h3, h4⟩
   ·exact laidVars_at h5 hm
theorem laid_at {P : Program} {W : World} {l : List (String × DataW Unit)} (h : laidMet P l W) {n : String} {d : DataW Unit} (hm : (n, d) ∈ l) :
 ∃ g t cs fuel p, P.globalNamed n = some g ∧ (P.globals[g]?).map (·.type) = some t ∧ W.var? P n = some cs ∧ DataW.trod (fun _ => ()) P W 0 (fun _ => true) false fuel t cs.toList = some (d, p) := by
 obtain ⟨ps, h1, _⟩ := h
 exact laidVars_at h1 hm
theorem strings_at {W : World} {l : List (String × DataW Unit)} (h : laidMet Tryz.prog l W) {n : String} {g : Nat} (ls : List (List UInt8)) (hne : ls ≠ [])
 (hm : (n, DataW.slice (ls.map fun x => .lit (.string x)) []) ∈ l) (hg : Tryz.prog.globalNamed n = some g) (hty : (Tryz.prog.globals[g]?).map (·.type) = some 46) (hcs : Tryz.prog.cellsOf 9 = 1) :
 ∃ b o c, W.cell? ⟨g, 0, none⟩ = some (.slice (some ⟨b, o, none⟩) ls.length c) ∧ ∀ j, j < ls.length → W.cell? ⟨b, o + j, none⟩ = some (.string ⟨(ls.getD j []).toArray⟩) := by
 obtain ⟨g', t, cs, fuel, p, h1, h2, h3, h4⟩ := laid_at h hm
 obtain rfl : g = g' := Option.some.inj (hg.symm.trans h1)
 obtain rfl : t = 46 := (Option.some.inj (hty.symm.trans h2)).symm
 rcases open_strings Tryz.underlying46 Tryz.underlying9 hcs h4 with ⟨_, hx⟩ | ⟨a, len, cap, ss, hcs2, _, hl, hm2, hz, hx, hcell, _⟩
 ·cases hx
 ·have hc0 := World.var?_cell hg h3 0
  have hcs3 : cs[0]? = some (.slice (some a) len cap) := by
   rw [← Array.getElem?_toList, hcs2]; rfl
  rw [hcs3] at hc0
  simp only [Prod.mk.injEq, DataW.slice.injEq] at hx
  obtain ⟨⟨e1, e2⟩, _⟩ := hx
  have hss : (ss.take len).map (fun s => s.data.toList) = ls := by
   have h5 : ∀ (zs : List ByteArray) (ys : List (List UInt8)), ys.map (fun x => (DataW.lit (.string x) : DataW Unit)) = strs zs → zs.map (fun s => s.data.toList) = ys := by
    intro zs
    induction zs with
    | nil => intro ys hy; cases ys with | nil => rfl | cons _ _ => simp [strs] at hy
    | cons z zs ih =>
      intro ys hy
      cases ys with
      | nil => simp [strs] at hy
      | cons y ys =>
        simp only [strs, List.map_cons, List.cons.injEq, DataW.lit.injEq, Lit.string.injEq] at hy ⊢
        exact ⟨hy.1.symm, ih ys hy.2⟩
   exact h5 _ _ e1
  have hslen : ss.length = cap := by simpa using hz
  have hlen : len = ls.length := by
   rw [← hss, List.length_map, List.length_take, hslen]; omega
  have hpos : 0 < ss.length := by
   have : 0 < ls.length := List.length_pos_iff.2 hne
   omega
  obtain ⟨b, o, sp⟩ := a
  have hsp : sp = none := by
   have h6 := hcell 0 hpos
   unfold World.cell? at h6
   cases sp with
   | none => rfl
   | some k =>
     exfalso
     have hsome : ((⟨b, o, some k⟩ : Addr).add 0).spot.isSome = true := by unfold Addr.add; split <;> simp_all
     rw [hsome] at h6
     split at h6
     ·simp at h6
     ·cases h6
  subst hsp
  refine ⟨b, o, cap, by rw [hc0, hlen], fun j hj => ?_⟩
  have h6 := hcell j (by omega)
  have hadd : (⟨b, o, none⟩ : Addr).add j = ⟨b, o + j, none⟩ := by unfold Addr.add; split <;> simp_all
  rw [hadd] at h6
  rw [h6]
  have h7 : (ls.getD j []) = (ss.getD j ByteArray.empty).data.toList := by
   have hj2 : j < ss.length := by omega
   rw [← hss, List.getD_eq_getElem?_getD, List.getElem?_map, List.getElem?_take, if_pos (by omega), List.getElem?_eq_getElem hj2, List.getD_eq_getElem?_getD, List.getElem?_eq_getElem hj2]
   rfl
  rw [h7]
theorem iface_at {W : World} {l : List (String × DataW Unit)} (h : laidMet Tryz.prog l W) {n : String} {g : Nat} {nm : String} {d : DataW Unit} {ti : TypeId} {ms : Array (String × TypeId)}
 (hm : (n, DataW.iface nm d) ∈ l) (hg : Tryz.prog.globalNamed n = some g) (hty : (Tryz.prog.globals[g]?).map (·.type) = some ti) (hi : Tryz.prog.underlying ti = some (.interface ms)) :
 ∃ te pe, W.cell? ⟨g, 0, none⟩ = some (.iface te pe) := by
 obtain ⟨g', t, cs, fuel, p, h1, h2, h3, h4⟩ := laid_at h hm
 obtain rfl : g = g' := Option.some.inj (hg.symm.trans h1)
 obtain rfl : t = ti := (Option.some.inj (hty.symm.trans h2)).symm
 obtain ⟨_, u, v, hcs2, _⟩ := iface_of_trod hi h4
 have hc0 := World.var?_cell hg h3 0
 have hcs3 : cs[0]? = some (.iface u v) := by
  rw [← Array.getElem?_toList, hcs2]; rfl
 exact ⟨u, v, by rw [hc0, hcs3]⟩
theorem lexEnv_of {W : World} (h : laidMetH Tryz.prog Rows.parserOffsetsRow.laid W) : LexEnv W := by
 have hl : laidMet Tryz.prog Rows.parserOffsetsRow.laid W := h
 have hk := strings_at hl (g := 3) Lex.keywords (by decide) (List.mem_of_getElem? (i := 6) rfl) (by kernel_rfl) (by kernel_rfl) (by kernel_rfl)
 have hs := strings_at hl (g := 1) Lex.symbols (by decide) (List.mem_of_getElem? (i := 7) rfl) (by kernel_rfl) (by kernel_rfl) (by kernel_rfl)
 exact ⟨hk, hs, iface_at hl (g := 6) (List.mem_of_getElem? (i := 4) rfl) (by kernel_rfl) (by kernel_rfl) Tryz.underlying123⟩
end Go.Proofs.YtdckddkalgnlpaaGreatDoor
namespace Go.Proofs.YtdckddkalgnlpaaGreatDoor
open Go.RowKit Go.WideShapes Go.ChangeShapes
section
variable {H : Type} {enc : TypeId × Value → H} {P : Program}
theorem post_kept {f : Func} {s : ChangeSpec} {apart fresh handsOn again : Bool} {W W' : World} {args : Array Value} {v : Value} {ds gs : List (DataW H)} {before pa pv : List MemPlace}
 (hW : DataW.Whole enc P f.params.toList s.vars apart W args.toList ds gs before) (hb : Below W.heap.size W W')
 (hres : ∀ (b : Nat) (sp : Nat → Bool) (hd : Bool), DataW.TrodAll enc P W' b sp hd f.resultTypes.toList (v.resultList f.resultTypes.size) (s.fn H (ds ++ gs)).results [])
 (hargs : ∀ sp : Nat → Bool, (∀ p ∈ before, sp p.block = true) → DataW.TrodAll enc P W' 0 sp true f.params.toList args.toList (s.fn H (ds ++ gs)).args pa)
 (hvars : ∀ sp : Nat → Bool, (∀ p ∈ before, sp p.block = true) → DataW.TrodVars enc P W' sp s.vars (s.fn H (ds ++ gs)).vars pv)
 (hps : before = pa ++ pv)
 (hok : ∀ (j : Nat) (t : TypeId) (r : Value), f.resultTypes[j]? = some t → (v.resultList f.resultTypes.size)[j]? = some r → Value.okWide P W' .any 0 t r) :
 s.post enc P f apart fresh handsOn again W args v W' := by
 subst hps
 have old : ∀ p ∈ pa ++ pv, decide (p.block < W.heap.size) = true := fun p hp => decide_eq_true (hW.lt p hp)
 refine ⟨ds, gs, pa ++ pv, [], pa, pv, hW, hres _ _ _, hargs (fun b => decide (b < W.heap.size)) old, hvars (fun b => decide (b < W.heap.size)) old, World.keptBut_mono (fun p hp => ⟨hp, .inr (List.mem_append.1 hp)⟩) (hb.frame (· ∈ pa ++ pv)), fun _ => ⟨hok, ?_⟩⟩
 obtain ⟨_, _, _, _, _, hz, hn⟩ := hW
 refine ⟨_, _, ([] ++ pa) ++ pv, ⟨[] ++ pa, pv, trodAll_append (hargs _ (fun _ _ => rfl)) (hres _ _ _), hvars _ (fun _ _ => rfl), rfl, fun b off hp => ?_, fun ha => ?_⟩, fun p hp _ => by simpa using hp⟩
 ·have hin : MemPlace.cell b off ∈ pa ++ pv := by simpa using hp
  rw [hb.frozen (of_decide_eq_true (old _ hin))]
  exact hz b off hin
 ·simpa using hn ha
end
theorem own : ownKnob Tryz.prog.godebug = none := by kernel_rfl
def rowOf : DataW Unit → List Value
 | .agg l => l.map fun | .lit (.int k n) => .int k n | _ => .nilIface
 | _ => []
def rowsOf : DataW Unit → List Value
 | .agg l => l.flatMap rowOf
 | _ => []
def strsOf (l : List (List UInt8)) : Array Value := (l.map fun x => Value.string ⟨x.toArray⟩).toArray
noncomputable def laidWorld (os : Os) : World :=
 let N := (World.settled Tryz.prog os).heap.size
 let w0 := World.holding Tryz.prog os ⟨#[
  .cells (strsOf Lex.keywords) 9, .cells (strsOf Lex.symbols) 9,
  .cells #[.string ⟨#[105, 110, 118, 97, 108, 105, 100, 32, 115, 121, 110, 116, 97, 120]⟩] 227,
  .cells #[.string ⟨#[118, 97, 108, 117, 101, 32, 111, 117, 116, 32, 111, 102, 32, 114, 97, 110, 103, 101]⟩] 227], #[], []⟩
 let put (h : Array Obj) (g : Nat) (cs : Array Value) : Array Obj := h.modify g fun
  | .cells _ t frozen => .cells cs t frozen
  | o => o
 let h := put w0.heap 3 #[.slice (some ⟨N, 0, none⟩) 24 24]
 let h := put h 1 #[.slice (some ⟨N + 1, 0, none⟩) 19 19]
 let h := put h 5 #[.iface 225 (.pointer (some ⟨N + 2, 0, none⟩))]
 let h := put h 6 #[.iface 225 (.pointer (some ⟨N + 3, 0, none⟩))]
 let h := put h 7 (rowOf Go.Pinned.utf8First).toArray
 let h := put h 8 (rowsOf Rows.laid_unicode_utf8_acceptRanges).toArray
 let h := put h 9 (rowOf Rows.laid_internal_strconv_uint64pow10).toArray
 let h := put h 10 (rowOf Rows.laid_math_bits_deBruijn32tab).toArray
 let h := put h 11 (rowOf Rows.laid_math_bits_deBruijn64tab).toArray
 { w0 with heap := h }
theorem laid_met (os : Os) (args : Array Value) : laidMet Tryz.prog Rows.parserOffsetsRow.laid ((laidWorld os).forCall (fun _ _ => 0) ⟨#[], args, []⟩).memory :=
 laidMet_of_run' 8 (by kernel_rfl) (by kernel_rfl)
end Go.Proofs.YtdckddkalgnlpaaGreatDoor
