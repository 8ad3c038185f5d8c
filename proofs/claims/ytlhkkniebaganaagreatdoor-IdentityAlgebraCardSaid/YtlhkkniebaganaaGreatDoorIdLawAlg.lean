/-
  The law IdentityAlgebra, walked.
-/
import Derived.Test.YtlhkkniebaganaaGreatDoorIdLawSets
namespace Go.Proofs.YtlhkkniebaganaaGreatDoor
open Go.RowKit

theorem sorted_cmp {l : List Id.I} (h : Id.Sorted l) {k : Nat} {x y : Id.I} (hx : l[k]? = some x) (hy : l[k + 1]? = some y) : Id.cmp x y = -1 := by
  obtain ⟨h1, rfl⟩ := List.getElem?_eq_some_iff.1 hx
  obtain ⟨h2, rfl⟩ := List.getElem?_eq_some_iff.1 hy
  have hlt := List.pairwise_iff_getElem.1 h k (k + 1) h1 h2 (by omega)
  have h3 := (Id.cmp_neg _ _).2 hlt
  rcases Id.cmp_three l[k] l[k + 1] with e | e | e
  · exact e
  · omega
  · omega
theorem hasB_union (a b : List Id.I) (x : Id.I) : Id.hasB (Id.unionL a b) x = (Id.hasB a x || Id.hasB b x) := by
  unfold Id.hasB
  rw [Bool.eq_iff_iff]
  simp [Id.mem_union]
theorem hasB_minus (a b : List Id.I) (x : Id.I) : Id.hasB (Id.minusL a b) x = (Id.hasB a x && !Id.hasB b x) := by
  have := Id.mem_minus a b x
  unfold Id.hasB at *
  rw [Bool.eq_iff_iff]
  simp [this]
/-- the two cells that a comparison reads -/
theorem al_below {a b c d : Prop} {wb w : World} (h : a ∧ b ∧ c ∧ d ∧ Hid (Below wb.heap.size wb w)) : Below wb.heap.size wb w := h.2.2.2.2.out
theorem al_keep {b o1 o2 o3 o4 : Nat} {v1 v2 v3 v4 : Value} {wb w0 w' : World} (h : w0.cell? ⟨b, o1, none⟩ = some v1 ∧ w0.cell? ⟨b, o2, none⟩ = some v2 ∧ w0.cell? ⟨b, o3, none⟩ = some v3 ∧ w0.cell? ⟨b, o4, none⟩ = some v4 ∧ Hid (Below wb.heap.size wb w0)) (hb : Below w0.heap.size w0 w') :
    w'.cell? ⟨b, o1, none⟩ = some v1 ∧ w'.cell? ⟨b, o2, none⟩ = some v2 ∧ w'.cell? ⟨b, o3, none⟩ = some v3 ∧ w'.cell? ⟨b, o4, none⟩ = some v4 ∧ Hid (Below wb.heap.size wb w') :=
  ⟨id_cell_keep hb h.1, id_cell_keep hb h.2.1, id_cell_keep hb h.2.2.1, id_cell_keep hb h.2.2.2.1, h.2.2.2.2.out.trans (hb.mono h.2.2.2.2.out.size)⟩

theorem IdsV.get2 {w : World} {p : Option Addr} {n c : Nat} {l : List Id.I} (h : IdsV w (.slice p n c) l) {k : Nat} {x y : Id.I} (hx : l[k]? = some x) (hy : l[k + 1]? = some y) :
    ∃ b o, p = some ⟨b, o, none⟩ ∧ w.cell? ⟨b, o + k * 2, none⟩ = some (.int .i64 x.1) ∧ w.cell? ⟨b, o + k * 2 + 1, none⟩ = some (.int .i64 x.2) ∧ w.cell? ⟨b, o + (k + 1) * 2, none⟩ = some (.int .i64 y.1) ∧ w.cell? ⟨b, o + (k + 1) * 2 + 1, none⟩ = some (.int .i64 y.2) := by
  rcases h with ⟨rfl, _⟩ | ⟨_, b, o, c', e, _, hat⟩
  · simp at hx
  · cases e
    exact ⟨b, o, rfl, (hat k x hx).1, (hat k x hx).2, (hat _ y hy).1, (hat _ y hy).2⟩
theorem union_sorted (a b : List Id.I) : Id.Sorted (Id.unionL a b) := Id.setL_sorted _
theorem minus_sorted (a b : List Id.I) : Id.Sorted (Id.minusL a b) := Id.setL_sorted _

set_option maxRecDepth 100000 in
set_option maxHeartbeats 8000000 in
theorem law_algebra (v1 v2 v3 : Value) (a b c : List Id.I) (x : Id.I) (w : World) (hE : IdEnv w) (h1 : IdsV w v1 a) (h2 : IdsV w v2 b) (h3 : IdsV w v3 c) :
    Calls Tryz.prog 4 #[v1, v2, v3, idV x] w fun e w' => e = .returned (.bool true) ∧ Below w.heap.size w w' := by
  obtain ⟨x1, x2⟩ := x
  unfold idV
  have hbx := below_alloc w (.cells #[.int .i64 x1, .int .i64 x2] 24)
  obtain ⟨c0, c1, _, _⟩ := cell_new w x1 x2
  have HA := Lib.hid (awake_any (w.alloc (.cells #[.int .i64 x1, .int .i64 x2] 24)) (hE.keep hbx))
  have H1 := Lib.hid h1
  have H2 := Lib.hid h2
  have H3 := Lib.hid h3
  have HBX := Lib.hid hbx
  obtain ⟨p1, d1, rfl⟩ := h1.form
  obtain ⟨p2, d2, rfl⟩ := h2.form
  obtain ⟨p3, d3, rfl⟩ := h3.form
  clear h1 h2 h3 hE hbx
  by_cases hlen : a.length ≤ 20 ∧ b.length ≤ 20 ∧ c.length ≤ 20
  · obtain ⟨la, lb, lc⟩ := hlen
    go_enter Tryz.func4, Tryz.ntmps4
    go_wp2_with fail
    refine HA.out.mono ?_
    rintro e w1 ⟨rfl, hb1⟩
    have V1 := Lib.hid ((H1.out.keep HBX.out).keep hb1)
    have V2 := Lib.hid ((H2.out.keep HBX.out).keep hb1)
    have V3 := Lib.hid ((H3.out.keep HBX.out).keep hb1)
    have C0 := Lib.hid (id_cell_keep hb1 c0)
    have C1 := Lib.hid (id_cell_keep hb1 c1)
    have HB1 := Lib.hid (HBX.out.trans (hb1.mono (by simp)))
    clear hb1 c0 c1 HA H1 H2 H3 HBX
    go_wp2_with fail
    refine (union_v V1.out V2.out (by omega) (by omega)).mono ?_
    rintro e w2 ⟨xu, rfl, hu, hb2⟩
    have HB2 := Lib.hid hb2
    have HU := Lib.hid hu
    clear hb2 hu
    go_wp2_with fail
    refine (minus_v (V1.out.keep HB2.out) (V2.out.keep HB2.out) (by omega) (by omega)).mono ?_
    rintro e w3 ⟨xm, rfl, hm, hb3⟩
    obtain ⟨pu, cu, eu⟩ := HU.out.form
    obtain ⟨pm, cm, em⟩ := hm.form
    have hlu : (Id.unionL a b).length ≤ 40 := Nat.le_trans (unionL_len a b) (by omega)
    have hlm : (Id.minusL a b).length ≤ 20 := Nat.le_trans (minusL_len a b) (by omega)
    obtain ⟨nu, hnu⟩ : ∃ n, (Id.unionL a b).length = n := ⟨_, rfl⟩
    obtain ⟨nm, hnm⟩ : ∃ n, (Id.minusL a b).length = n := ⟨_, rfl⟩
    rw [hnu] at eu hlu
    rw [hnm] at em hlm
    subst eu em
    have U3 := Lib.hid (HU.out.keep hb3)
    have M3 := Lib.hid hm
    have HB3 := Lib.hid (HB2.out.trans (hb3.mono HB2.out.size))
    have HNU := Lib.hid hnu
    have HNM := Lib.hid hnm
    clear hm hnu hnm hb3 HU HB2
    obtain ⟨w6, hw6⟩ : ∃ w6, w6 = w3.alloc (.cells #[.slice pu nu cu, .slice pm nm cm] 22) := ⟨_, rfl⟩
    have r0 : w6.cell? ⟨w3.heap.size, 0, none⟩ = some (.slice pu nu cu) := by rw [hw6]; exact new_cell (h0 := w3.heap) (cs := #[.slice pu nu cu, .slice pm nm cm]) rfl rfl 0 _ rfl
    have r1 : w6.cell? ⟨w3.heap.size, 1, none⟩ = some (.slice pm nm cm) := by rw [hw6]; exact new_cell (h0 := w3.heap) (cs := #[.slice pu nu cu, .slice pm nm cm]) rfl rfl 1 _ rfl
    have HB6 := Lib.hid (show Below w3.heap.size w3 w6 by rw [hw6]; exact below_alloc _ _)
    go_wp2
    rw [← hw6]
    clear hw6
    refine wp_loop_rounds 3 ?_
    rw [rounds_succ]
    go_wp2
    go_loopw [13] (fun i wr => ∃ k : Nat, i = .int .i64 ((k + 1 : Nat) : Int) ∧ (k = 0 ∨ k + 1 ≤ nu) ∧ Below w6.heap.size w6 wr) (fun i _ => nu - (intOf i).toNat)
    case atStart => exact ⟨0, rfl, .inl rfl, Below.refl _ _⟩
    case round =>
      obtain ⟨k, rfl, hk, hbr⟩ := hrel
      have HK := Lib.hid hk
      have HBR := Lib.hid hbr
      clear hk
      by_cases hlt : k + 1 < nu
      · obtain ⟨x, hx⟩ : ∃ x, (Id.unionL a b)[k]? = some x := ⟨_, List.getElem?_eq_getElem (by rw [HNU.out]; omega)⟩
        obtain ⟨y, hy⟩ : ∃ y, (Id.unionL a b)[k + 1]? = some y := ⟨_, List.getElem?_eq_getElem (by rw [HNU.out]; omega)⟩
        obtain ⟨g, o, rfl, y0, y1, y2, y3⟩ := ((U3.out.keep HB6.out).keep hbr).get2 hx hy
        have hcmp := fun W => compare_any x y W
        rw [sorted_cmp (union_sorted a b) hx hy] at hcmp
        unfold idV at hcmp
        have HC := Lib.hid hcmp
        have HS0 : Hid (wr.cell? ⟨g, o + k * 2, none⟩ = some (.int .i64 x.1) ∧ wr.cell? ⟨g, o + k * 2 + 1, none⟩ = some (.int .i64 x.2) ∧ wr.cell? ⟨g, o + (k + 1) * 2, none⟩ = some (.int .i64 y.1) ∧ wr.cell? ⟨g, o + (k + 1) * 2 + 1, none⟩ = some (.int .i64 y.2) ∧ Hid (Below wr.heap.size wr wr)) := ⟨y0, y1, y2, y3, Below.refl _ _⟩
        have HSd := Lib.hid (al_keep HS0.out (below_drew wr))
        clear hx hy hcmp hbr
        have f1 : IntKind.i64.wrap ((k : Int) + 1 - 1) = (k : Int) := by rw [Int.add_sub_cancel]; exact IntWalk.i64_in _ (by omega)
        have f2 : IntKind.i64.wrap (k : Int) = (k : Int) := IntWalk.i64_in _ (by omega)
        have f3 : ((k : Int) + 1).toNat = k + 1 := by omega
        have f4 : (0 : Int) ≤ (k : Int) + 1 := by omega
        have f5 : (k : Int) + 1 < (nu : Int) := by omega
        have f6 : (k : Int) < (nu : Int) := by omega
        have f7 : (k : Int) + 1 - 1 = (k : Int) := by omega
        go_wp2
        go_region_held3 (fun w' => w'.cell? ⟨g, o + k * 2, none⟩ = some (.int .i64 x.1) ∧ w'.cell? ⟨g, o + k * 2 + 1, none⟩ = some (.int .i64 x.2) ∧ w'.cell? ⟨g, o + (k + 1) * 2, none⟩ = some (.int .i64 y.1) ∧ w'.cell? ⟨g, o + (k + 1) * 2 + 1, none⟩ = some (.int .i64 y.2) ∧ Hid (Below wr.heap.size wr w')) (first | exact al_keep (by assumption) hb | exact HSd.out | exact al_keep (by assumption) (below_drew _)) ((go_at_call 15; (with_reducible refine (HC.out _).mono ?_); rintro e w' ⟨rfl, hb⟩))
        rename_i hheld
        have HF := Lib.hid (HBR.out.trans ((al_below hheld).mono HBR.out.size))
        clear hheld f1 f2 f3 f4 f5 f6 f7
        go_wp2
        go_roundw
        case rel => exact ⟨k + 1, by go_num, .inr (by omega), HF.out⟩
        case measure => simp [intOf]; omega
      · clear hbr
        go_wp2
        have r1' := id_cell_keep HBR.out r1
        rw [rounds_succ]
        go_wp2
        go_loopw [13] (fun i wr => ∃ k : Nat, i = .int .i64 ((k + 1 : Nat) : Int) ∧ (k = 0 ∨ k + 1 ≤ nm) ∧ Below w6.heap.size w6 wr) (fun i _ => nm - (intOf i).toNat)
        case atStart => exact ⟨0, rfl, .inl rfl, HBR.out⟩
        case round =>
          obtain ⟨k, rfl, hk, hbr⟩ := hrel
          have HK := Lib.hid hk
          have HBR := Lib.hid hbr
          clear hk
          by_cases hlt : k + 1 < nm
          · obtain ⟨x, hx⟩ : ∃ x, (Id.minusL a b)[k]? = some x := ⟨_, List.getElem?_eq_getElem (by rw [HNM.out]; omega)⟩
            obtain ⟨y, hy⟩ : ∃ y, (Id.minusL a b)[k + 1]? = some y := ⟨_, List.getElem?_eq_getElem (by rw [HNM.out]; omega)⟩
            obtain ⟨g, o, rfl, y0, y1, y2, y3⟩ := ((M3.out.keep HB6.out).keep hbr).get2 hx hy
            have hcmp := fun W => compare_any x y W
            rw [sorted_cmp (minus_sorted a b) hx hy] at hcmp
            unfold idV at hcmp
            have HC := Lib.hid hcmp
            have HS0 : Hid (wr.cell? ⟨g, o + k * 2, none⟩ = some (.int .i64 x.1) ∧ wr.cell? ⟨g, o + k * 2 + 1, none⟩ = some (.int .i64 x.2) ∧ wr.cell? ⟨g, o + (k + 1) * 2, none⟩ = some (.int .i64 y.1) ∧ wr.cell? ⟨g, o + (k + 1) * 2 + 1, none⟩ = some (.int .i64 y.2) ∧ Hid (Below wr.heap.size wr wr)) := ⟨y0, y1, y2, y3, Below.refl _ _⟩
            have HSd := Lib.hid (al_keep HS0.out (below_drew wr))
            clear hx hy hcmp hbr
            have f1 : IntKind.i64.wrap ((k : Int) + 1 - 1) = (k : Int) := by rw [Int.add_sub_cancel]; exact IntWalk.i64_in _ (by omega)
            have f2 : IntKind.i64.wrap (k : Int) = (k : Int) := IntWalk.i64_in _ (by omega)
            have f3 : ((k : Int) + 1).toNat = k + 1 := by omega
            have f4 : (0 : Int) ≤ (k : Int) + 1 := by omega
            have f5 : (k : Int) + 1 < (nm : Int) := by omega
            have f6 : (k : Int) < (nm : Int) := by omega
            have f7 : (k : Int) + 1 - 1 = (k : Int) := by omega
            go_wp2
            go_region_held3 (fun w' => w'.cell? ⟨g, o + k * 2, none⟩ = some (.int .i64 x.1) ∧ w'.cell? ⟨g, o + k * 2 + 1, none⟩ = some (.int .i64 x.2) ∧ w'.cell? ⟨g, o + (k + 1) * 2, none⟩ = some (.int .i64 y.1) ∧ w'.cell? ⟨g, o + (k + 1) * 2 + 1, none⟩ = some (.int .i64 y.2) ∧ Hid (Below wr.heap.size wr w')) (first | exact al_keep (by assumption) hb | exact HSd.out | exact al_keep (by assumption) (below_drew _)) ((go_at_call 15; (with_reducible refine (HC.out _).mono ?_); rintro e w' ⟨rfl, hb⟩))
            rename_i hheld
            have HF := Lib.hid (HBR.out.trans ((al_below hheld).mono HBR.out.size))
            clear hheld f1 f2 f3 f4 f5 f6 f7
            go_wp2
            go_roundw
            case rel => exact ⟨k + 1, by go_num, .inr (by omega), HF.out⟩
            case measure => simp [intOf]; omega
          · clear hbr
            go_wp2
            have HW := Lib.hid ((HB3.out.trans (HB6.out.mono HB3.out.size)).trans (HBR.out.mono (Nat.le_trans HB3.out.size HB6.out.size)))
            have A1 := Lib.hid (V1.out.keep HW.out)
            have A2 := Lib.hid (V2.out.keep HW.out)
            have A3 := Lib.hid (V3.out.keep HW.out)
            have U1 := Lib.hid ((U3.out.keep HB6.out).keep HBR.out)
            have M1 := Lib.hid ((M3.out.keep HB6.out).keep HBR.out)
            have c0 := id_cell_keep HW.out C0.out
            have c1 := id_cell_keep HW.out C1.out
            have HBW := Lib.hid (HB1.out.trans (HW.out.mono HB1.out.size))
            have hlu' : Hid ((Id.unionL a b).length ≤ 400) := by rw [HNU.out]; exact Nat.le_trans hlu (by omega)
            have hlm' : Hid ((Id.minusL a b).length ≤ 400) := by rw [HNM.out]; exact Nat.le_trans hlm (by omega)
            clear hlt HK HBR r1 r1' V1 V2 V3 U3 M3 C0 C1 HW HB3 HB6 HB1
            rw [rounds_succ]
            go_wp2_with fail
            refine (union_v A2.out A1.out (by omega) (by omega)).mono ?_
            rintro e w7 ⟨x7, rfl, hv7, hb7⟩
            have X7 := Lib.hid hv7
            have B7 := Lib.hid hb7
            clear hv7 hb7
            go_wp2_with fail
            refine (same_t (U1.out.keep B7.out) (by rw [Id.union_comm]; exact X7.out) (Nat.le_trans hlu'.out (by omega))).mono ?_
            rintro e w8 ⟨rfl, hb8⟩
            have B8 := Lib.hid (B7.out.trans (hb8.mono B7.out.size))
            clear hb8 X7 B7
            go_wp2_with fail
            refine (union_v (U1.out.keep B8.out) (A3.out.keep B8.out) hlu'.out (by omega)).mono ?_
            rintro e w9 ⟨x9, rfl, hv9, hb9⟩
            have X9 := Lib.hid hv9
            have B9 := Lib.hid (B8.out.trans (hb9.mono B8.out.size))
            clear hv9 hb9 B8
            go_wp2_with fail
            refine (union_v (A2.out.keep B9.out) (A3.out.keep B9.out) (by omega) (by omega)).mono ?_
            rintro e w10 ⟨x10, rfl, hv10, hb10⟩
            have X10 := Lib.hid hv10
            have X9a := Lib.hid (X9.out.keep hb10)
            have B10 := Lib.hid (B9.out.trans (hb10.mono B9.out.size))
            clear hv10 hb10 B9 X9
            go_wp2_with fail
            refine (union_v (A1.out.keep B10.out) X10.out (by omega) (Nat.le_trans (unionL_len b c) (by omega))).mono ?_
            rintro e w11 ⟨x11, rfl, hv11, hb11⟩
            have X11 := Lib.hid hv11
            have X9b := Lib.hid (X9a.out.keep hb11)
            have B11 := Lib.hid (B10.out.trans (hb11.mono B10.out.size))
            clear hv11 hb11 B10 X9a X10
            go_wp2_with fail
            refine (same_t X9b.out (by rw [Id.union_assoc]; exact X11.out) (Nat.le_trans (unionL_len _ _) (by have := hlu'.out; omega))).mono ?_
            rintro e w12 ⟨rfl, hb12⟩
            have B12 := Lib.hid (B11.out.trans (hb12.mono B11.out.size))
            clear hb12 B11 X9b X11
            go_wp2_with fail
            refine (union_v (U1.out.keep B12.out) (U1.out.keep B12.out) hlu'.out hlu'.out).mono ?_
            rintro e w13 ⟨x13, rfl, hv13, hb13⟩
            have X13 := Lib.hid hv13
            have B13 := Lib.hid (B12.out.trans (hb13.mono B12.out.size))
            clear hv13 hb13 B12
            go_wp2_with fail
            refine (same_t (by have := X13.out; rw [Id.union_idem] at this; exact this) (U1.out.keep B13.out) (Nat.le_trans hlu'.out (by omega))).mono ?_
            rintro e w14 ⟨rfl, hb14⟩
            have B14 := Lib.hid (B13.out.trans (hb14.mono B13.out.size))
            clear hb14 B13 X13
            obtain ⟨qa, hqa⟩ : ∃ q, Id.hasB a (x1, x2) = q := ⟨_, rfl⟩
            obtain ⟨qb, hqb⟩ : ∃ q, Id.hasB b (x1, x2) = q := ⟨_, rfl⟩
            obtain ⟨qu, hqu⟩ : ∃ q, Id.hasB (Id.unionL a b) (x1, x2) = q := ⟨_, rfl⟩
            obtain ⟨qm, hqm⟩ : ∃ q, Id.hasB (Id.minusL a b) (x1, x2) = q := ⟨_, rfl⟩
            have KA : Hid (∀ W, Below w14.heap.size w14 W → Calls Tryz.prog 13 #[.slice p1 a.length d1, .agg #[.int .i64 x1, .int .i64 x2]] W fun e w' => e = .returned (.bool qa) ∧ Below W.heap.size W w') := fun W hb => by
              have := has_v (x1, x2) ((A1.out.keep B14.out).keep hb) (by omega)
              rw [hqa] at this
              exact this
            have KB : Hid (∀ W, Below w14.heap.size w14 W → Calls Tryz.prog 13 #[.slice p2 b.length d2, .agg #[.int .i64 x1, .int .i64 x2]] W fun e w' => e = .returned (.bool qb) ∧ Below W.heap.size W w') := fun W hb => by
              have := has_v (x1, x2) ((A2.out.keep B14.out).keep hb) (by omega)
              rw [hqb] at this
              exact this
            have KU : Hid (∀ W, Below w14.heap.size w14 W → Calls Tryz.prog 13 #[.slice pu nu cu, .agg #[.int .i64 x1, .int .i64 x2]] W fun e w' => e = .returned (.bool qu) ∧ Below W.heap.size W w') := fun W hb => by
              have := has_v (x1, x2) ((U1.out.keep B14.out).keep hb) (Nat.le_trans hlu'.out (by omega))
              rw [hqu] at this
              exact this
            have KM : Hid (∀ W, Below w14.heap.size w14 W → Calls Tryz.prog 13 #[.slice pm nm cm, .agg #[.int .i64 x1, .int .i64 x2]] W fun e w' => e = .returned (.bool qm) ∧ Below W.heap.size W w') := fun W hb => by
              have := has_v (x1, x2) ((M1.out.keep B14.out).keep hb) (Nat.le_trans hlm'.out (by omega))
              rw [hqm] at this
              exact this
            have KS : Hid (∀ W, Below w14.heap.size w14 W → Calls Tryz.prog 7 #[.slice p1 a.length d1] W fun e w' => ∃ v', e = .returned v' ∧ Hid (IdsV w' v' (Id.setL a)) ∧ Below W.heap.size W w') := fun W hb => (set_v _ a W (by omega) ((A1.out.keep B14.out).keep hb)).mono fun e w' ⟨v', h1, h2, h3⟩ => ⟨v', h1, h2.ids, h3⟩
            have KN : Hid (∀ W, Below w14.heap.size w14 W → Calls Tryz.prog 11 #[.slice p1 a.length d1, .slice pm nm cm] W fun e w' => ∃ v', e = .returned v' ∧ Hid (IdsV w' v' (Id.minusL a (Id.minusL a b))) ∧ Below W.heap.size W w') := fun W hb => minus_v ((A1.out.keep B14.out).keep hb) ((M1.out.keep B14.out).keep hb) (by omega) hlm'.out
            have KX : Hid (∀ W v, Below w14.heap.size w14 W → IdsV W v (Id.minusL a (Id.minusL a b)) → Calls Tryz.prog 9 #[.slice pm nm cm, v] W fun e w' => ∃ v', e = .returned v' ∧ Hid (IdsV w' v' (Id.setL a)) ∧ Below W.heap.size W w') := fun W v hb hv => by
              have := union_v ((M1.out.keep B14.out).keep hb) hv hlm'.out (Nat.le_trans (minusL_len _ _) (by omega))
              rw [Id.minus_union] at this
              exact this
            have hru : qu = (qa || qb) := by rw [← hqu, ← hqa, ← hqb, hasB_union]
            have hrm : qm = (qa && !qb) := by rw [← hqm, ← hqa, ← hqb, hasB_minus]
            have L1 : Hid ((Id.setL a).length ≤ 1000000) := Nat.le_trans (Id.setL_len a) (by omega)
            have y0 := id_cell_keep B14.out c0
            have y1 := id_cell_keep B14.out c1
            have HS0 : Hid (w14.cell? ⟨w.heap.size, 0, none⟩ = some (.int .i64 x1) ∧ w14.cell? ⟨w.heap.size, 1, none⟩ = some (.int .i64 x2) ∧ Hid (Below w14.heap.size w14 w14)) := ⟨y0, y1, Below.refl _ _⟩
            have HSd := Lib.hid (st_keep HS0.out (below_drew w14))
            have HBZ := Lib.hid (HBW.out.trans (B14.out.mono HBW.out.size))
            clear hqa hqb hqu hqm c0 c1 A1 A2 A3 U1 M1 B14 HBW hlu' hlm' HNU HNM hlu hlm
            go_wp2_with fail
            cases qa
            · cases qb <;> simp only [Bool.or_true, Bool.or_false, Bool.and_true, Bool.and_false, Bool.not_true, Bool.not_false] at hru hrm <;> subst hru hrm
              all_goals
                refine wp_region_held_drew (S := fun w' => w'.cell? ⟨w.heap.size, 0, none⟩ = some (.int .i64 x1) ∧ w'.cell? ⟨w.heap.size, 1, none⟩ = some (.int .i64 x2) ∧ Hid (Below w14.heap.size w14 w')) (by kernel_rfl) ?_ (fun hHeld => ?_)
                · exact HSd.out
                refine wpAnyH_take (i := 0) (oi := ⟨some 91, _, _, _, _, _⟩) (v := ?_) rfl (by kernel_rfl) (by kernel_rfl) (by kernel_rfl) (fun _ _ _ h => h) (Or.inl ⟨by rfl, ?_⟩) (by assumption) ?_
                rotate_left
                · (intro w hSw; (try dsimp only at hSw); go_simp; (try with_reducible rfl))
                try simp only [Act.put, List.setIfInBounds_toArray, List.set_cons_zero, List.set_cons_succ]
                refine wpAnyH_take (i := 1) (oi := ⟨some 92, _, _, _, _, _⟩) (v := ?_) rfl (by kernel_rfl) (by kernel_rfl) (by kernel_rfl) (fun _ _ _ h => h) (Or.inl ⟨by rfl, ?_⟩) (by assumption) ?_
                rotate_left
                · (intro w hSw; (try dsimp only at hSw); go_simp; (try with_reducible rfl))
                try simp only [Act.put, List.setIfInBounds_toArray, List.set_cons_zero, List.set_cons_succ]
                refine wpAnyH_take (i := 3) (oi := ⟨some 94, _, _, _, _, _⟩) (v := ?_) rfl (by kernel_rfl) (by kernel_rfl) (by kernel_rfl) (fun _ _ _ h => h) (Or.inl ⟨by rfl, ?_⟩) (by assumption) ?_
                rotate_left
                · (intro w hSw; (try dsimp only at hSw); go_simp; (try with_reducible rfl))
                try simp only [Act.put, List.setIfInBounds_toArray, List.set_cons_zero, List.set_cons_succ]
                refine wpAnyH_take (i := 4) (oi := ⟨some 95, _, _, _, _, _⟩) (v := ?_) rfl (by kernel_rfl) (by kernel_rfl) (by kernel_rfl) (fun _ _ _ h => h) (Or.inl ⟨by rfl, ?_⟩) (by assumption) ?_
                rotate_left
                · (intro w hSw; (try dsimp only at hSw); go_simp; (try with_reducible rfl))
                try simp only [Act.put, List.setIfInBounds_toArray, List.set_cons_zero, List.set_cons_succ]
                refine wpAnyH_ready (rs := [2]) (by kernel_rfl) (by simp) ?_
                refine AllReadyH.cons (o := ⟨some 93, _, _, _, _, _⟩) rfl (fun K hK => ?_) AllReadyH.nil
                go_simp
                with_reducible refine (KU.out _ (st_below (by assumption))).mono ?_
                rintro e w' ⟨rfl, hb⟩
                go_wp2_with fail
                refine hK.out _ _ ?_ (fun hHeld => ?_)
                · exact st_keep (by assumption) hb
                clear hK K
                try simp only [Act.put, List.setIfInBounds_toArray, List.set_cons_zero, List.set_cons_succ]
                refine wpAnyH_ready (rs := [5]) (by kernel_rfl) (by simp) ?_
                refine AllReadyH.cons (o := ⟨some 96, _, _, _, _, _⟩) rfl (fun K hK => ?_) AllReadyH.nil
                go_simp
                with_reducible refine (KA.out _ (st_below (by assumption))).mono ?_
                rintro e w' ⟨rfl, hb⟩
                go_wp2_with fail
                refine hK.out _ _ ?_ (fun hHeld => ?_)
                · exact st_keep (by assumption) hb
                clear hK K
                try simp only [Act.put, List.setIfInBounds_toArray, List.set_cons_zero, List.set_cons_succ]
                refine wpAnyH_take (i := 6) (oi := ⟨some 97, _, _, _, _, _⟩) (v := ?_) rfl (by kernel_rfl) (by kernel_rfl) (by kernel_rfl) (fun _ _ _ h => h) (Or.inl ⟨by rfl, ?_⟩) (by assumption) ?_
                rotate_left
                · (intro w hSw; (try dsimp only at hSw); go_simp; (try with_reducible rfl))
                try simp only [Act.put, List.setIfInBounds_toArray, List.set_cons_zero, List.set_cons_succ]
                refine wpAnyH_take (i := 7) (oi := ⟨some 98, _, _, _, _, _⟩) (v := ?_) rfl (by kernel_rfl) (by kernel_rfl) (by kernel_rfl) (fun _ _ _ h => h) (Or.inl ⟨by rfl, ?_⟩) (by assumption) ?_
                rotate_left
                · (intro w hSw; (try dsimp only at hSw); go_simp; (try with_reducible rfl))
                try simp only [Act.put, List.setIfInBounds_toArray, List.set_cons_zero, List.set_cons_succ]
                refine wpAnyH_take (i := 8) (oi := ⟨some 99, _, _, _, _, _⟩) (v := ?_) rfl (by kernel_rfl) (by kernel_rfl) (by kernel_rfl) (fun _ _ _ h => h) (Or.inl ⟨by rfl, ?_⟩) (by assumption) ?_
                rotate_left
                · (intro w hSw; (try dsimp only at hSw); go_simp; (try with_reducible rfl))
                try simp only [Act.put, List.setIfInBounds_toArray, List.set_cons_zero, List.set_cons_succ]
                refine wpAnyH_ready (rs := [9]) (by kernel_rfl) (by simp) ?_
                refine AllReadyH.cons (o := ⟨some 100, _, _, _, _, _⟩) rfl (fun K hK => ?_) AllReadyH.nil
                go_simp
                with_reducible refine (KB.out _ (st_below (by assumption))).mono ?_
                rintro e w' ⟨rfl, hb⟩
                go_wp2_with fail
                refine hK.out _ _ ?_ (fun hHeld => ?_)
                · exact st_keep (by assumption) hb
                clear hK K
                try simp only [Act.put, List.setIfInBounds_toArray, List.set_cons_zero, List.set_cons_succ]
                refine wpAnyH_take (i := 10) (oi := ⟨some 101, _, _, _, _, _⟩) (v := ?_) rfl (by kernel_rfl) (by kernel_rfl) (by kernel_rfl) (fun _ _ _ h => h) (Or.inl ⟨by rfl, ?_⟩) (by assumption) ?_
                rotate_left
                · (intro w hSw; (try dsimp only at hSw); go_simp; (try with_reducible rfl))
                try simp only [Act.put, List.setIfInBounds_toArray, List.set_cons_zero, List.set_cons_succ]
                refine wpAnyH_take (i := 11) (oi := ⟨some 102, _, _, _, _, _⟩) (v := ?_) rfl (by kernel_rfl) (by kernel_rfl) (by kernel_rfl) (fun _ _ _ h => h) (Or.inl ⟨by rfl, ?_⟩) (by assumption) ?_
                rotate_left
                · (intro w hSw; (try dsimp only at hSw); go_simp; (try with_reducible rfl))
                try simp only [Act.put, List.setIfInBounds_toArray, List.set_cons_zero, List.set_cons_succ]
                refine wpAnyH_take (i := 12) (oi := ⟨some 103, _, _, _, _, _⟩) (v := ?_) rfl (by kernel_rfl) (by kernel_rfl) (by kernel_rfl) (fun _ _ _ h => h) (Or.inl ⟨by rfl, ?_⟩) (by assumption) ?_
                rotate_left
                · (intro w hSw; (try dsimp only at hSw); go_simp; (try with_reducible rfl))
                try simp only [Act.put, List.setIfInBounds_toArray, List.set_cons_zero, List.set_cons_succ]
                refine wpAnyH_take (i := 13) (oi := ⟨some 104, _, _, _, _, _⟩) (v := ?_) rfl (by kernel_rfl) (by kernel_rfl) (by kernel_rfl) (fun _ _ _ h => h) (Or.inl ⟨by rfl, ?_⟩) (by assumption) ?_
                rotate_left
                · (intro w hSw; (try dsimp only at hSw); go_simp; (try with_reducible rfl))
                try simp only [Act.put, List.setIfInBounds_toArray, List.set_cons_zero, List.set_cons_succ]
                refine wpAnyH_take (i := 14) (oi := ⟨some 105, _, _, _, _, _⟩) (v := ?_) rfl (by kernel_rfl) (by kernel_rfl) (by kernel_rfl) (fun _ _ _ h => h) (Or.inl ⟨by rfl, ?_⟩) (by assumption) ?_
                rotate_left
                · (intro w hSw; (try dsimp only at hSw); go_simp; (try with_reducible rfl))
                try simp only [Act.put, List.setIfInBounds_toArray, List.set_cons_zero, List.set_cons_succ]
                refine wpAnyH_take (i := 16) (oi := ⟨some 107, _, _, _, _, _⟩) (v := ?_) rfl (by kernel_rfl) (by kernel_rfl) (by kernel_rfl) (fun _ _ _ h => h) (Or.inl ⟨by rfl, ?_⟩) (by assumption) ?_
                rotate_left
                · (intro w hSw; (try dsimp only at hSw); go_simp; (try with_reducible rfl))
                try simp only [Act.put, List.setIfInBounds_toArray, List.set_cons_zero, List.set_cons_succ]
                refine wpAnyH_take (i := 17) (oi := ⟨some 108, _, _, _, _, _⟩) (v := ?_) rfl (by kernel_rfl) (by kernel_rfl) (by kernel_rfl) (fun _ _ _ h => h) (Or.inl ⟨by rfl, ?_⟩) (by assumption) ?_
                rotate_left
                · (intro w hSw; (try dsimp only at hSw); go_simp; (try with_reducible rfl))
                try simp only [Act.put, List.setIfInBounds_toArray, List.set_cons_zero, List.set_cons_succ]
                refine wpAnyH_ready (rs := [15]) (by kernel_rfl) (by simp) ?_
                refine AllReadyH.cons (o := ⟨some 106, _, _, _, _, _⟩) rfl (fun K hK => ?_) AllReadyH.nil
                go_simp
                with_reducible refine (KM.out _ (st_below (by assumption))).mono ?_
                rintro e w' ⟨rfl, hb⟩
                go_wp2_with fail
                refine hK.out _ _ ?_ (fun hHeld => ?_)
                · exact st_keep (by assumption) hb
                clear hK K
                try simp only [Act.put, List.setIfInBounds_toArray, List.set_cons_zero, List.set_cons_succ]
                refine wpAnyH_ready (rs := [18]) (by kernel_rfl) (by simp) ?_
                refine AllReadyH.cons (o := ⟨some 109, _, _, _, _, _⟩) rfl (fun K hK => ?_) AllReadyH.nil
                go_simp
                with_reducible refine (KA.out _ (st_below (by assumption))).mono ?_
                rintro e w' ⟨rfl, hb⟩
                go_wp2_with fail
                refine hK.out _ _ ?_ (fun hHeld => ?_)
                · exact st_keep (by assumption) hb
                clear hK K
                try simp only [Act.put, List.setIfInBounds_toArray, List.set_cons_zero, List.set_cons_succ]
                refine wpAnyH_take (i := 19) (oi := ⟨some 110, _, _, _, _, _⟩) (v := ?_) rfl (by kernel_rfl) (by kernel_rfl) (by kernel_rfl) (fun _ _ _ h => h) (Or.inl ⟨by rfl, ?_⟩) (by assumption) ?_
                rotate_left
                · (intro w hSw; (try dsimp only at hSw); go_simp; (try with_reducible rfl))
                try simp only [Act.put, List.setIfInBounds_toArray, List.set_cons_zero, List.set_cons_succ]
                refine wpAnyH_take (i := 20) (oi := ⟨some 111, _, _, _, _, _⟩) (v := undef) rfl (by kernel_rfl) (by kernel_rfl) (by kernel_rfl) (fun _ _ _ h => h) (Or.inr ⟨by rfl, rfl⟩) (by assumption) ?_
                try simp only [Act.put, List.setIfInBounds_toArray, List.set_cons_zero, List.set_cons_succ]
                refine wpAnyH_take (i := 21) (oi := ⟨some 112, _, _, _, _, _⟩) (v := undef) rfl (by kernel_rfl) (by kernel_rfl) (by kernel_rfl) (fun _ _ _ h => h) (Or.inr ⟨by rfl, rfl⟩) (by assumption) ?_
                try simp only [Act.put, List.setIfInBounds_toArray, List.set_cons_zero, List.set_cons_succ]
                refine wpAnyH_take (i := 22) (oi := ⟨some 113, _, _, _, _, _⟩) (v := undef) rfl (by kernel_rfl) (by kernel_rfl) (by kernel_rfl) (fun _ _ _ h => h) (Or.inr ⟨by rfl, rfl⟩) (by assumption) ?_
                try simp only [Act.put, List.setIfInBounds_toArray, List.set_cons_zero, List.set_cons_succ]
                refine wpAnyH_take (i := 23) (oi := ⟨some 114, _, _, _, _, _⟩) (v := undef) rfl (by kernel_rfl) (by kernel_rfl) (by kernel_rfl) (fun _ _ _ h => h) (Or.inr ⟨by rfl, rfl⟩) (by assumption) ?_
                try simp only [Act.put, List.setIfInBounds_toArray, List.set_cons_zero, List.set_cons_succ]
                refine wpAnyH_take (i := 24) (oi := ⟨some 115, _, _, _, _, _⟩) (v := ?_) rfl (by kernel_rfl) (by kernel_rfl) (by kernel_rfl) (fun _ _ _ h => h) (Or.inl ⟨by rfl, ?_⟩) (by assumption) ?_
                rotate_left
                · (intro w hSw; (try dsimp only at hSw); go_simp; (try with_reducible rfl))
                try simp only [Act.put, List.setIfInBounds_toArray, List.set_cons_zero, List.set_cons_succ]
                refine wpAnyH_take (i := 25) (oi := ⟨some 116, _, _, _, _, _⟩) (v := ?_) rfl (by kernel_rfl) (by kernel_rfl) (by kernel_rfl) (fun _ _ _ h => h) (Or.inl ⟨by rfl, ?_⟩) (by assumption) ?_
                rotate_left
                · (intro w hSw; (try dsimp only at hSw); go_simp; (try with_reducible rfl))
                try simp only [Act.put, List.setIfInBounds_toArray, List.set_cons_zero, List.set_cons_succ]
                refine wpAnyH_take (i := 26) (oi := ⟨some 117, _, _, _, _, _⟩) (v := ?_) rfl (by kernel_rfl) (by kernel_rfl) (by kernel_rfl) (fun _ _ _ h => h) (Or.inl ⟨by rfl, ?_⟩) (by assumption) ?_
                rotate_left
                · (intro w hSw; (try dsimp only at hSw); go_simp; (try with_reducible rfl))
                try simp only [Act.put, List.setIfInBounds_toArray, List.set_cons_zero, List.set_cons_succ]
                refine wpAnyH_take (i := 27) (oi := ⟨some 118, _, _, _, _, _⟩) (v := ?_) rfl (by kernel_rfl) (by kernel_rfl) (by kernel_rfl) (fun _ _ _ h => h) (Or.inl ⟨by rfl, ?_⟩) (by assumption) ?_
                rotate_left
                · (intro w hSw; (try dsimp only at hSw); go_simp; (try with_reducible rfl))
                try simp only [Act.put, List.setIfInBounds_toArray, List.set_cons_zero, List.set_cons_succ]
                refine wpAnyH_take (i := 28) (oi := ⟨some 119, _, _, _, _, _⟩) (v := ?_) rfl (by kernel_rfl) (by kernel_rfl) (by kernel_rfl) (fun _ _ _ h => h) (Or.inl ⟨by rfl, ?_⟩) (by assumption) ?_
                rotate_left
                · (intro w hSw; (try dsimp only at hSw); go_simp; (try with_reducible rfl))
                try simp only [Act.put, List.setIfInBounds_toArray, List.set_cons_zero, List.set_cons_succ]
                refine wpAnyH_take (i := 29) (oi := ⟨some 120, _, _, _, _, _⟩) (v := ?_) rfl (by kernel_rfl) (by kernel_rfl) (by kernel_rfl) (fun _ _ _ h => h) (Or.inl ⟨by rfl, ?_⟩) (by assumption) ?_
                rotate_left
                · (intro w hSw; (try dsimp only at hSw); go_simp; (try with_reducible rfl))
                try simp only [Act.put, List.setIfInBounds_toArray, List.set_cons_zero, List.set_cons_succ]
                refine wpAnyH_take (i := 30) (oi := ⟨some 121, _, _, _, _, _⟩) (v := ?_) rfl (by kernel_rfl) (by kernel_rfl) (by kernel_rfl) (fun _ _ _ h => h) (Or.inl ⟨by rfl, ?_⟩) (by assumption) ?_
                rotate_left
                · (intro w hSw; (try dsimp only at hSw); go_simp; (try with_reducible rfl))
                try simp only [Act.put, List.setIfInBounds_toArray, List.set_cons_zero, List.set_cons_succ]
                refine wpAnyH_take (i := 31) (oi := ⟨some 122, _, _, _, _, _⟩) (v := ?_) rfl (by kernel_rfl) (by kernel_rfl) (by kernel_rfl) (fun _ _ _ h => h) (Or.inl ⟨by rfl, ?_⟩) (by assumption) ?_
                rotate_left
                · (intro w hSw; (try dsimp only at hSw); go_simp; (try with_reducible rfl))
                try simp only [Act.put, List.setIfInBounds_toArray, List.set_cons_zero, List.set_cons_succ]
                refine wpAnyH_take (i := 34) (oi := ⟨some 125, _, _, _, _, _⟩) (v := ?_) rfl (by kernel_rfl) (by kernel_rfl) (by kernel_rfl) (fun _ _ _ h => h) (Or.inl ⟨by rfl, ?_⟩) (by assumption) ?_
                rotate_left
                · (intro w hSw; (try dsimp only at hSw); go_simp; (try with_reducible rfl))
                try simp only [Act.put, List.setIfInBounds_toArray, List.set_cons_zero, List.set_cons_succ]
                refine wpAnyH_ready (rs := [32]) (by kernel_rfl) (by simp) ?_
                refine AllReadyH.cons (o := ⟨some 123, _, _, _, _, _⟩) rfl (fun K hK => ?_) AllReadyH.nil
                go_simp
                with_reducible refine (KN.out _ (st_below (by assumption))).mono ?_
                rintro e w' ⟨v', rfl, hv, hb⟩
                go_wp2_with fail
                refine hK.out _ _ ?_ (fun hHeld => ?_)
                · exact st_keep (by assumption) hb
                clear hK K
                try simp only [Act.put, List.setIfInBounds_toArray, List.set_cons_zero, List.set_cons_succ]
                refine wpAnyH_ready (rs := [33]) (by kernel_rfl) (by simp) ?_
                refine AllReadyH.cons (o := ⟨some 124, _, _, _, _, _⟩) rfl (fun K hK => ?_) AllReadyH.nil
                go_simp
                with_reducible refine (KX.out _ _ (st_below (by assumption)) (ids_now (by assumption))).mono ?_
                rintro e w' ⟨v', rfl, hv, hb⟩
                go_wp2_with fail
                refine hK.out _ _ ?_ (fun hHeld => ?_)
                · exact st_keep (by assumption) hb
                clear hK K
                try simp only [Act.put, List.setIfInBounds_toArray, List.set_cons_zero, List.set_cons_succ]
                refine wpAnyH_ready (rs := [35]) (by kernel_rfl) (by simp) ?_
                refine AllReadyH.cons (o := ⟨some 126, _, _, _, _, _⟩) rfl (fun K hK => ?_) AllReadyH.nil
                go_simp
                with_reducible refine (KS.out _ (st_below (by assumption))).mono ?_
                rintro e w' ⟨v', rfl, hv, hb⟩
                go_wp2_with fail
                refine hK.out _ _ ?_ (fun hHeld => ?_)
                · exact st_keep (by assumption) hb
                clear hK K
                try simp only [Act.put, List.setIfInBounds_toArray, List.set_cons_zero, List.set_cons_succ]
                refine wpAnyH_ready (rs := [36]) (by kernel_rfl) (by simp) ?_
                refine AllReadyH.cons (o := ⟨some 127, _, _, _, _, _⟩) rfl (fun K hK => ?_) AllReadyH.nil
                go_simp
                with_reducible refine (same_t (ids_later (by assumption) (by assumption)) (ids_now (by assumption)) L1.out).mono ?_
                rintro e w' ⟨rfl, hb⟩
                go_wp2_with fail
                refine hK.out _ _ ?_ (fun hHeld => ?_)
                · exact st_keep (by assumption) hb
                clear hK K
                try simp only [Act.put, List.setIfInBounds_toArray, List.set_cons_zero, List.set_cons_succ]
                refine wpAnyH_take (i := 37) (oi := ⟨some 128, _, _, _, _, _⟩) (v := ?_) rfl (by kernel_rfl) (by kernel_rfl) (by kernel_rfl) (fun _ _ _ h => h) (Or.inl ⟨by rfl, ?_⟩) (by assumption) ?_
                rotate_left
                · (intro w hSw; (try dsimp only at hSw); go_simp; (try with_reducible rfl))
                try simp only [Act.put, List.setIfInBounds_toArray, List.set_cons_zero, List.set_cons_succ]
                refine wpAnyH_take (i := 38) (oi := ⟨some 8, _, _, _, _, _⟩) (v := ?_) rfl (by kernel_rfl) (by kernel_rfl) (by kernel_rfl) (fun _ _ _ h => h) (Or.inl ⟨by rfl, ?_⟩) (by assumption) ?_
                rotate_left
                · (intro w hSw; (try dsimp only at hSw); go_simp; (try with_reducible rfl))
                try simp only [Act.put, List.setIfInBounds_toArray, List.set_cons_zero, List.set_cons_succ]
                refine wpAnyH_done (by kernel_rfl) ?_ _
                have HF := Lib.hid (HBZ.out.trans ((st_below hHeld).mono HBZ.out.size))
                clear hHeld
                go_wp2_with fail
                go_ret
                exact ⟨rfl, HF.out⟩
            · cases qb <;> simp only [Bool.or_true, Bool.or_false, Bool.and_true, Bool.and_false, Bool.not_true, Bool.not_false] at hru hrm <;> subst hru hrm
              all_goals
                refine wp_region_held_drew (S := fun w' => w'.cell? ⟨w.heap.size, 0, none⟩ = some (.int .i64 x1) ∧ w'.cell? ⟨w.heap.size, 1, none⟩ = some (.int .i64 x2) ∧ Hid (Below w14.heap.size w14 w')) (by kernel_rfl) ?_ (fun hHeld => ?_)
                · exact HSd.out
                refine wpAnyH_take (i := 0) (oi := ⟨some 91, _, _, _, _, _⟩) (v := ?_) rfl (by kernel_rfl) (by kernel_rfl) (by kernel_rfl) (fun _ _ _ h => h) (Or.inl ⟨by rfl, ?_⟩) (by assumption) ?_
                rotate_left
                · (intro w hSw; (try dsimp only at hSw); go_simp; (try with_reducible rfl))
                try simp only [Act.put, List.setIfInBounds_toArray, List.set_cons_zero, List.set_cons_succ]
                refine wpAnyH_take (i := 1) (oi := ⟨some 92, _, _, _, _, _⟩) (v := ?_) rfl (by kernel_rfl) (by kernel_rfl) (by kernel_rfl) (fun _ _ _ h => h) (Or.inl ⟨by rfl, ?_⟩) (by assumption) ?_
                rotate_left
                · (intro w hSw; (try dsimp only at hSw); go_simp; (try with_reducible rfl))
                try simp only [Act.put, List.setIfInBounds_toArray, List.set_cons_zero, List.set_cons_succ]
                refine wpAnyH_take (i := 3) (oi := ⟨some 94, _, _, _, _, _⟩) (v := ?_) rfl (by kernel_rfl) (by kernel_rfl) (by kernel_rfl) (fun _ _ _ h => h) (Or.inl ⟨by rfl, ?_⟩) (by assumption) ?_
                rotate_left
                · (intro w hSw; (try dsimp only at hSw); go_simp; (try with_reducible rfl))
                try simp only [Act.put, List.setIfInBounds_toArray, List.set_cons_zero, List.set_cons_succ]
                refine wpAnyH_take (i := 4) (oi := ⟨some 95, _, _, _, _, _⟩) (v := ?_) rfl (by kernel_rfl) (by kernel_rfl) (by kernel_rfl) (fun _ _ _ h => h) (Or.inl ⟨by rfl, ?_⟩) (by assumption) ?_
                rotate_left
                · (intro w hSw; (try dsimp only at hSw); go_simp; (try with_reducible rfl))
                try simp only [Act.put, List.setIfInBounds_toArray, List.set_cons_zero, List.set_cons_succ]
                refine wpAnyH_ready (rs := [2]) (by kernel_rfl) (by simp) ?_
                refine AllReadyH.cons (o := ⟨some 93, _, _, _, _, _⟩) rfl (fun K hK => ?_) AllReadyH.nil
                go_simp
                with_reducible refine (KU.out _ (st_below (by assumption))).mono ?_
                rintro e w' ⟨rfl, hb⟩
                go_wp2_with fail
                refine hK.out _ _ ?_ (fun hHeld => ?_)
                · exact st_keep (by assumption) hb
                clear hK K
                try simp only [Act.put, List.setIfInBounds_toArray, List.set_cons_zero, List.set_cons_succ]
                refine wpAnyH_ready (rs := [5]) (by kernel_rfl) (by simp) ?_
                refine AllReadyH.cons (o := ⟨some 96, _, _, _, _, _⟩) rfl (fun K hK => ?_) AllReadyH.nil
                go_simp
                with_reducible refine (KA.out _ (st_below (by assumption))).mono ?_
                rintro e w' ⟨rfl, hb⟩
                go_wp2_with fail
                refine hK.out _ _ ?_ (fun hHeld => ?_)
                · exact st_keep (by assumption) hb
                clear hK K
                try simp only [Act.put, List.setIfInBounds_toArray, List.set_cons_zero, List.set_cons_succ]
                refine wpAnyH_take (i := 6) (oi := ⟨some 97, _, _, _, _, _⟩) (v := ?_) rfl (by kernel_rfl) (by kernel_rfl) (by kernel_rfl) (fun _ _ _ h => h) (Or.inl ⟨by rfl, ?_⟩) (by assumption) ?_
                rotate_left
                · (intro w hSw; (try dsimp only at hSw); go_simp; (try with_reducible rfl))
                try simp only [Act.put, List.setIfInBounds_toArray, List.set_cons_zero, List.set_cons_succ]
                refine wpAnyH_take (i := 7) (oi := ⟨some 98, _, _, _, _, _⟩) (v := undef) rfl (by kernel_rfl) (by kernel_rfl) (by kernel_rfl) (fun _ _ _ h => h) (Or.inr ⟨by rfl, rfl⟩) (by assumption) ?_
                try simp only [Act.put, List.setIfInBounds_toArray, List.set_cons_zero, List.set_cons_succ]
                refine wpAnyH_take (i := 8) (oi := ⟨some 99, _, _, _, _, _⟩) (v := undef) rfl (by kernel_rfl) (by kernel_rfl) (by kernel_rfl) (fun _ _ _ h => h) (Or.inr ⟨by rfl, rfl⟩) (by assumption) ?_
                try simp only [Act.put, List.setIfInBounds_toArray, List.set_cons_zero, List.set_cons_succ]
                refine wpAnyH_take (i := 9) (oi := ⟨some 100, _, _, _, _, _⟩) (v := undef) rfl (by kernel_rfl) (by kernel_rfl) (by kernel_rfl) (fun _ _ _ h => h) (Or.inr ⟨by rfl, rfl⟩) (by assumption) ?_
                try simp only [Act.put, List.setIfInBounds_toArray, List.set_cons_zero, List.set_cons_succ]
                refine wpAnyH_take (i := 10) (oi := ⟨some 101, _, _, _, _, _⟩) (v := ?_) rfl (by kernel_rfl) (by kernel_rfl) (by kernel_rfl) (fun _ _ _ h => h) (Or.inl ⟨by rfl, ?_⟩) (by assumption) ?_
                rotate_left
                · (intro w hSw; (try dsimp only at hSw); go_simp; (try with_reducible rfl))
                try simp only [Act.put, List.setIfInBounds_toArray, List.set_cons_zero, List.set_cons_succ]
                refine wpAnyH_take (i := 11) (oi := ⟨some 102, _, _, _, _, _⟩) (v := ?_) rfl (by kernel_rfl) (by kernel_rfl) (by kernel_rfl) (fun _ _ _ h => h) (Or.inl ⟨by rfl, ?_⟩) (by assumption) ?_
                rotate_left
                · (intro w hSw; (try dsimp only at hSw); go_simp; (try with_reducible rfl))
                try simp only [Act.put, List.setIfInBounds_toArray, List.set_cons_zero, List.set_cons_succ]
                refine wpAnyH_take (i := 12) (oi := ⟨some 103, _, _, _, _, _⟩) (v := ?_) rfl (by kernel_rfl) (by kernel_rfl) (by kernel_rfl) (fun _ _ _ h => h) (Or.inl ⟨by rfl, ?_⟩) (by assumption) ?_
                rotate_left
                · (intro w hSw; (try dsimp only at hSw); go_simp; (try with_reducible rfl))
                try simp only [Act.put, List.setIfInBounds_toArray, List.set_cons_zero, List.set_cons_succ]
                refine wpAnyH_take (i := 13) (oi := ⟨some 104, _, _, _, _, _⟩) (v := ?_) rfl (by kernel_rfl) (by kernel_rfl) (by kernel_rfl) (fun _ _ _ h => h) (Or.inl ⟨by rfl, ?_⟩) (by assumption) ?_
                rotate_left
                · (intro w hSw; (try dsimp only at hSw); go_simp; (try with_reducible rfl))
                try simp only [Act.put, List.setIfInBounds_toArray, List.set_cons_zero, List.set_cons_succ]
                refine wpAnyH_take (i := 14) (oi := ⟨some 105, _, _, _, _, _⟩) (v := ?_) rfl (by kernel_rfl) (by kernel_rfl) (by kernel_rfl) (fun _ _ _ h => h) (Or.inl ⟨by rfl, ?_⟩) (by assumption) ?_
                rotate_left
                · (intro w hSw; (try dsimp only at hSw); go_simp; (try with_reducible rfl))
                try simp only [Act.put, List.setIfInBounds_toArray, List.set_cons_zero, List.set_cons_succ]
                refine wpAnyH_take (i := 16) (oi := ⟨some 107, _, _, _, _, _⟩) (v := ?_) rfl (by kernel_rfl) (by kernel_rfl) (by kernel_rfl) (fun _ _ _ h => h) (Or.inl ⟨by rfl, ?_⟩) (by assumption) ?_
                rotate_left
                · (intro w hSw; (try dsimp only at hSw); go_simp; (try with_reducible rfl))
                try simp only [Act.put, List.setIfInBounds_toArray, List.set_cons_zero, List.set_cons_succ]
                refine wpAnyH_take (i := 17) (oi := ⟨some 108, _, _, _, _, _⟩) (v := ?_) rfl (by kernel_rfl) (by kernel_rfl) (by kernel_rfl) (fun _ _ _ h => h) (Or.inl ⟨by rfl, ?_⟩) (by assumption) ?_
                rotate_left
                · (intro w hSw; (try dsimp only at hSw); go_simp; (try with_reducible rfl))
                try simp only [Act.put, List.setIfInBounds_toArray, List.set_cons_zero, List.set_cons_succ]
                refine wpAnyH_ready (rs := [15]) (by kernel_rfl) (by simp) ?_
                refine AllReadyH.cons (o := ⟨some 106, _, _, _, _, _⟩) rfl (fun K hK => ?_) AllReadyH.nil
                go_simp
                with_reducible refine (KM.out _ (st_below (by assumption))).mono ?_
                rintro e w' ⟨rfl, hb⟩
                go_wp2_with fail
                refine hK.out _ _ ?_ (fun hHeld => ?_)
                · exact st_keep (by assumption) hb
                clear hK K
                try simp only [Act.put, List.setIfInBounds_toArray, List.set_cons_zero, List.set_cons_succ]
                refine wpAnyH_ready (rs := [18]) (by kernel_rfl) (by simp) ?_
                refine AllReadyH.cons (o := ⟨some 109, _, _, _, _, _⟩) rfl (fun K hK => ?_) AllReadyH.nil
                go_simp
                with_reducible refine (KA.out _ (st_below (by assumption))).mono ?_
                rintro e w' ⟨rfl, hb⟩
                go_wp2_with fail
                refine hK.out _ _ ?_ (fun hHeld => ?_)
                · exact st_keep (by assumption) hb
                clear hK K
                try simp only [Act.put, List.setIfInBounds_toArray, List.set_cons_zero, List.set_cons_succ]
                refine wpAnyH_take (i := 19) (oi := ⟨some 110, _, _, _, _, _⟩) (v := ?_) rfl (by kernel_rfl) (by kernel_rfl) (by kernel_rfl) (fun _ _ _ h => h) (Or.inl ⟨by rfl, ?_⟩) (by assumption) ?_
                rotate_left
                · (intro w hSw; (try dsimp only at hSw); go_simp; (try with_reducible rfl))
                try simp only [Act.put, List.setIfInBounds_toArray, List.set_cons_zero, List.set_cons_succ]
                refine wpAnyH_take (i := 20) (oi := ⟨some 111, _, _, _, _, _⟩) (v := ?_) rfl (by kernel_rfl) (by kernel_rfl) (by kernel_rfl) (fun _ _ _ h => h) (Or.inl ⟨by rfl, ?_⟩) (by assumption) ?_
                rotate_left
                · (intro w hSw; (try dsimp only at hSw); go_simp; (try with_reducible rfl))
                try simp only [Act.put, List.setIfInBounds_toArray, List.set_cons_zero, List.set_cons_succ]
                refine wpAnyH_take (i := 21) (oi := ⟨some 112, _, _, _, _, _⟩) (v := ?_) rfl (by kernel_rfl) (by kernel_rfl) (by kernel_rfl) (fun _ _ _ h => h) (Or.inl ⟨by rfl, ?_⟩) (by assumption) ?_
                rotate_left
                · (intro w hSw; (try dsimp only at hSw); go_simp; (try with_reducible rfl))
                try simp only [Act.put, List.setIfInBounds_toArray, List.set_cons_zero, List.set_cons_succ]
                refine wpAnyH_ready (rs := [22]) (by kernel_rfl) (by simp) ?_
                refine AllReadyH.cons (o := ⟨some 113, _, _, _, _, _⟩) rfl (fun K hK => ?_) AllReadyH.nil
                go_simp
                with_reducible refine (KB.out _ (st_below (by assumption))).mono ?_
                rintro e w' ⟨rfl, hb⟩
                go_wp2_with fail
                refine hK.out _ _ ?_ (fun hHeld => ?_)
                · exact st_keep (by assumption) hb
                clear hK K
                try simp only [Act.put, List.setIfInBounds_toArray, List.set_cons_zero, List.set_cons_succ]
                refine wpAnyH_take (i := 23) (oi := ⟨some 114, _, _, _, _, _⟩) (v := ?_) rfl (by kernel_rfl) (by kernel_rfl) (by kernel_rfl) (fun _ _ _ h => h) (Or.inl ⟨by rfl, ?_⟩) (by assumption) ?_
                rotate_left
                · (intro w hSw; (try dsimp only at hSw); go_simp; (try with_reducible rfl))
                try simp only [Act.put, List.setIfInBounds_toArray, List.set_cons_zero, List.set_cons_succ]
                refine wpAnyH_take (i := 24) (oi := ⟨some 115, _, _, _, _, _⟩) (v := ?_) rfl (by kernel_rfl) (by kernel_rfl) (by kernel_rfl) (fun _ _ _ h => h) (Or.inl ⟨by rfl, ?_⟩) (by assumption) ?_
                rotate_left
                · (intro w hSw; (try dsimp only at hSw); go_simp; (try with_reducible rfl))
                try simp only [Act.put, List.setIfInBounds_toArray, List.set_cons_zero, List.set_cons_succ]
                refine wpAnyH_take (i := 25) (oi := ⟨some 116, _, _, _, _, _⟩) (v := ?_) rfl (by kernel_rfl) (by kernel_rfl) (by kernel_rfl) (fun _ _ _ h => h) (Or.inl ⟨by rfl, ?_⟩) (by assumption) ?_
                rotate_left
                · (intro w hSw; (try dsimp only at hSw); go_simp; (try with_reducible rfl))
                try simp only [Act.put, List.setIfInBounds_toArray, List.set_cons_zero, List.set_cons_succ]
                refine wpAnyH_take (i := 26) (oi := ⟨some 117, _, _, _, _, _⟩) (v := ?_) rfl (by kernel_rfl) (by kernel_rfl) (by kernel_rfl) (fun _ _ _ h => h) (Or.inl ⟨by rfl, ?_⟩) (by assumption) ?_
                rotate_left
                · (intro w hSw; (try dsimp only at hSw); go_simp; (try with_reducible rfl))
                try simp only [Act.put, List.setIfInBounds_toArray, List.set_cons_zero, List.set_cons_succ]
                refine wpAnyH_take (i := 27) (oi := ⟨some 118, _, _, _, _, _⟩) (v := ?_) rfl (by kernel_rfl) (by kernel_rfl) (by kernel_rfl) (fun _ _ _ h => h) (Or.inl ⟨by rfl, ?_⟩) (by assumption) ?_
                rotate_left
                · (intro w hSw; (try dsimp only at hSw); go_simp; (try with_reducible rfl))
                try simp only [Act.put, List.setIfInBounds_toArray, List.set_cons_zero, List.set_cons_succ]
                refine wpAnyH_take (i := 28) (oi := ⟨some 119, _, _, _, _, _⟩) (v := ?_) rfl (by kernel_rfl) (by kernel_rfl) (by kernel_rfl) (fun _ _ _ h => h) (Or.inl ⟨by rfl, ?_⟩) (by assumption) ?_
                rotate_left
                · (intro w hSw; (try dsimp only at hSw); go_simp; (try with_reducible rfl))
                try simp only [Act.put, List.setIfInBounds_toArray, List.set_cons_zero, List.set_cons_succ]
                refine wpAnyH_take (i := 29) (oi := ⟨some 120, _, _, _, _, _⟩) (v := ?_) rfl (by kernel_rfl) (by kernel_rfl) (by kernel_rfl) (fun _ _ _ h => h) (Or.inl ⟨by rfl, ?_⟩) (by assumption) ?_
                rotate_left
                · (intro w hSw; (try dsimp only at hSw); go_simp; (try with_reducible rfl))
                try simp only [Act.put, List.setIfInBounds_toArray, List.set_cons_zero, List.set_cons_succ]
                refine wpAnyH_take (i := 30) (oi := ⟨some 121, _, _, _, _, _⟩) (v := ?_) rfl (by kernel_rfl) (by kernel_rfl) (by kernel_rfl) (fun _ _ _ h => h) (Or.inl ⟨by rfl, ?_⟩) (by assumption) ?_
                rotate_left
                · (intro w hSw; (try dsimp only at hSw); go_simp; (try with_reducible rfl))
                try simp only [Act.put, List.setIfInBounds_toArray, List.set_cons_zero, List.set_cons_succ]
                refine wpAnyH_take (i := 31) (oi := ⟨some 122, _, _, _, _, _⟩) (v := ?_) rfl (by kernel_rfl) (by kernel_rfl) (by kernel_rfl) (fun _ _ _ h => h) (Or.inl ⟨by rfl, ?_⟩) (by assumption) ?_
                rotate_left
                · (intro w hSw; (try dsimp only at hSw); go_simp; (try with_reducible rfl))
                try simp only [Act.put, List.setIfInBounds_toArray, List.set_cons_zero, List.set_cons_succ]
                refine wpAnyH_take (i := 34) (oi := ⟨some 125, _, _, _, _, _⟩) (v := ?_) rfl (by kernel_rfl) (by kernel_rfl) (by kernel_rfl) (fun _ _ _ h => h) (Or.inl ⟨by rfl, ?_⟩) (by assumption) ?_
                rotate_left
                · (intro w hSw; (try dsimp only at hSw); go_simp; (try with_reducible rfl))
                try simp only [Act.put, List.setIfInBounds_toArray, List.set_cons_zero, List.set_cons_succ]
                refine wpAnyH_ready (rs := [32]) (by kernel_rfl) (by simp) ?_
                refine AllReadyH.cons (o := ⟨some 123, _, _, _, _, _⟩) rfl (fun K hK => ?_) AllReadyH.nil
                go_simp
                with_reducible refine (KN.out _ (st_below (by assumption))).mono ?_
                rintro e w' ⟨v', rfl, hv, hb⟩
                go_wp2_with fail
                refine hK.out _ _ ?_ (fun hHeld => ?_)
                · exact st_keep (by assumption) hb
                clear hK K
                try simp only [Act.put, List.setIfInBounds_toArray, List.set_cons_zero, List.set_cons_succ]
                refine wpAnyH_ready (rs := [33]) (by kernel_rfl) (by simp) ?_
                refine AllReadyH.cons (o := ⟨some 124, _, _, _, _, _⟩) rfl (fun K hK => ?_) AllReadyH.nil
                go_simp
                with_reducible refine (KX.out _ _ (st_below (by assumption)) (ids_now (by assumption))).mono ?_
                rintro e w' ⟨v', rfl, hv, hb⟩
                go_wp2_with fail
                refine hK.out _ _ ?_ (fun hHeld => ?_)
                · exact st_keep (by assumption) hb
                clear hK K
                try simp only [Act.put, List.setIfInBounds_toArray, List.set_cons_zero, List.set_cons_succ]
                refine wpAnyH_ready (rs := [35]) (by kernel_rfl) (by simp) ?_
                refine AllReadyH.cons (o := ⟨some 126, _, _, _, _, _⟩) rfl (fun K hK => ?_) AllReadyH.nil
                go_simp
                with_reducible refine (KS.out _ (st_below (by assumption))).mono ?_
                rintro e w' ⟨v', rfl, hv, hb⟩
                go_wp2_with fail
                refine hK.out _ _ ?_ (fun hHeld => ?_)
                · exact st_keep (by assumption) hb
                clear hK K
                try simp only [Act.put, List.setIfInBounds_toArray, List.set_cons_zero, List.set_cons_succ]
                refine wpAnyH_ready (rs := [36]) (by kernel_rfl) (by simp) ?_
                refine AllReadyH.cons (o := ⟨some 127, _, _, _, _, _⟩) rfl (fun K hK => ?_) AllReadyH.nil
                go_simp
                with_reducible refine (same_t (ids_later (by assumption) (by assumption)) (ids_now (by assumption)) L1.out).mono ?_
                rintro e w' ⟨rfl, hb⟩
                go_wp2_with fail
                refine hK.out _ _ ?_ (fun hHeld => ?_)
                · exact st_keep (by assumption) hb
                clear hK K
                try simp only [Act.put, List.setIfInBounds_toArray, List.set_cons_zero, List.set_cons_succ]
                refine wpAnyH_take (i := 37) (oi := ⟨some 128, _, _, _, _, _⟩) (v := ?_) rfl (by kernel_rfl) (by kernel_rfl) (by kernel_rfl) (fun _ _ _ h => h) (Or.inl ⟨by rfl, ?_⟩) (by assumption) ?_
                rotate_left
                · (intro w hSw; (try dsimp only at hSw); go_simp; (try with_reducible rfl))
                try simp only [Act.put, List.setIfInBounds_toArray, List.set_cons_zero, List.set_cons_succ]
                refine wpAnyH_take (i := 38) (oi := ⟨some 8, _, _, _, _, _⟩) (v := ?_) rfl (by kernel_rfl) (by kernel_rfl) (by kernel_rfl) (fun _ _ _ h => h) (Or.inl ⟨by rfl, ?_⟩) (by assumption) ?_
                rotate_left
                · (intro w hSw; (try dsimp only at hSw); go_simp; (try with_reducible rfl))
                try simp only [Act.put, List.setIfInBounds_toArray, List.set_cons_zero, List.set_cons_succ]
                refine wpAnyH_done (by kernel_rfl) ?_ _
                have HF := Lib.hid (HBZ.out.trans ((st_below hHeld).mono HBZ.out.size))
                clear hHeld
                go_wp2_with fail
                go_ret
                exact ⟨rfl, HF.out⟩
  · have hl : 20 < a.length ∨ (a.length ≤ 20 ∧ 20 < b.length) ∨ (a.length ≤ 20 ∧ b.length ≤ 20 ∧ 20 < c.length) := by omega
    clear hlen
    rcases hl with la | ⟨la, lb⟩ | ⟨la, lb, lc⟩
    all_goals
      go_enter Tryz.func4, Tryz.ntmps4
      go_wp2_with fail
      refine HA.out.mono ?_
      rintro e w1 ⟨rfl, hb1⟩
      have HB1 := Lib.hid (HBX.out.trans (hb1.mono (by simp)))
      clear hb1 c0 c1 HA H1 H2 H3 HBX
      go_wp2_with fail
      go_ret
      exact ⟨rfl, HB1.out⟩
end Go.Proofs.YtlhkkniebaganaaGreatDoor
