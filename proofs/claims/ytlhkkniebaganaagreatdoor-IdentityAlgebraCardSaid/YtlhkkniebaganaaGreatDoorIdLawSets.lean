/-
  The law IdentitySets, walked.
-/
import Derived.Test.YtlhkkniebaganaaGreatDoorIdSetI
namespace Go.Proofs.YtlhkkniebaganaaGreatDoor
open Go.RowKit

theorem st_below {a b : Prop} {wb w : World} (h : a ∧ b ∧ Hid (Below wb.heap.size wb w)) : Below wb.heap.size wb w := h.2.2.out
theorem st_keep {A : Nat} {va vb : Value} {wb w0 w' : World} (h : w0.cell? ⟨A, 0, none⟩ = some va ∧ w0.cell? ⟨A, 1, none⟩ = some vb ∧ Hid (Below wb.heap.size wb w0)) (hb : Below w0.heap.size w0 w') :
    w'.cell? ⟨A, 0, none⟩ = some va ∧ w'.cell? ⟨A, 1, none⟩ = some vb ∧ Hid (Below wb.heap.size wb w') :=
  ⟨id_cell_keep hb h.1, id_cell_keep hb h.2.1, h.2.2.out.trans (hb.mono h.2.2.out.size)⟩
theorem same_t {v1 v2 : Value} {l : List Id.I} {w : World} (h1 : IdsV w v1 l) (h2 : IdsV w v2 l) (hl : l.length ≤ 1000000) :
    Calls Tryz.prog 6 #[v1, v2] w fun e w' => e = .returned (.bool true) ∧ Below w.heap.size w w' := by
  have := same_v h1 h2 hl
  rw [decide_eq_true rfl] at this
  exact this
theorem ids_now {w : World} {v : Value} {l : List Id.I} (h : Hid (IdsV w v l)) : IdsV w v l := h
theorem ids_later {w w' : World} {v : Value} {l : List Id.I} (h : Hid (IdsV w v l)) (hb : Below w.heap.size w w') : IdsV w' v l := IdsV.keep h hb
theorem minusL_len (a b : List Id.I) : (Id.minusL a b).length ≤ a.length := by
  unfold Id.minusL
  have h1 := Id.setL_len (a.filter fun x => !Id.hasB b x)
  have h2 := List.length_filter_le (fun x => !Id.hasB b x) a
  omega
theorem unionL_len (a b : List Id.I) : (Id.unionL a b).length ≤ a.length + b.length := by
  unfold Id.unionL
  have h1 := Id.setL_len (a ++ b)
  rw [List.length_append] at h1
  exact h1

set_option maxRecDepth 100000 in
set_option maxHeartbeats 4000000 in
theorem law_sets (v1 v2 : Value) (a b : List Id.I) (x : Id.I) (w : World) (hE : IdEnv w) (h1 : IdsV w v1 a) (h2 : IdsV w v2 b) :
    Calls Tryz.prog 3 #[v1, v2, idV x] w fun e w' => e = .returned (.bool true) ∧ Below w.heap.size w w' := by
  obtain ⟨x1, x2⟩ := x
  unfold idV
  have hbx := below_alloc w (.cells #[.int .i64 x1, .int .i64 x2] 24)
  obtain ⟨c0, c1, _, _⟩ := cell_new w x1 x2
  have HA := Lib.hid (awake_any (w.alloc (.cells #[.int .i64 x1, .int .i64 x2] 24)) (hE.keep hbx))
  have H1 := Lib.hid h1
  have H2 := Lib.hid h2
  have HBX := Lib.hid hbx
  obtain ⟨p1, d1, rfl⟩ := h1.form
  obtain ⟨p2, d2, rfl⟩ := h2.form
  clear h1 h2 hE hbx
  by_cases hlen : a.length ≤ 20 ∧ b.length ≤ 20
  · obtain ⟨la, lb⟩ := hlen
    go_enter Tryz.func3, Tryz.ntmps3
    go_wp2_with fail
    refine HA.out.mono ?_
    rintro e w1 ⟨rfl, hb1⟩
    have y0 := id_cell_keep hb1 c0
    have y1 := id_cell_keep hb1 c1
    have V1 := Lib.hid ((H1.out.keep HBX.out).keep hb1)
    have V2 := Lib.hid ((H2.out.keep HBX.out).keep hb1)
    have HB1 := Lib.hid (HBX.out.trans (hb1.mono (by simp)))
    clear hb1 c0 c1 HA H1 H2 HBX
    have KS : Hid (∀ W, Below w1.heap.size w1 W → Calls Tryz.prog 7 #[.slice p1 a.length d1] W fun e w' => ∃ v', e = .returned v' ∧ Hid (IdsV w' v' (Id.setL a)) ∧ Below W.heap.size W w') := fun W hb => (set_v _ a W (by omega) (V1.out.keep hb)).mono fun e w' ⟨v', h1, h2, h3⟩ => ⟨v', h1, h2.ids, h3⟩
    have KSr : Hid (∀ W, Below w1.heap.size w1 W → Calls Tryz.prog 8 #[.slice p1 a.length d1] W fun e w' => ∃ v', e = .returned v' ∧ Hid (IdsV w' v' (Id.setL a)) ∧ Below W.heap.size W w') := fun W hb => (setRef_v (V1.out.keep hb) (by omega)).mono fun e w' ⟨v', h1, h2, h3⟩ => ⟨v', h1, h2.ids, h3⟩
    have KU : Hid (∀ W, Below w1.heap.size w1 W → Calls Tryz.prog 9 #[.slice p1 a.length d1, .slice p2 b.length d2] W fun e w' => ∃ v', e = .returned v' ∧ Hid (IdsV w' v' (Id.unionL a b)) ∧ Below W.heap.size W w') := fun W hb => union_v (V1.out.keep hb) (V2.out.keep hb) (by omega) (by omega)
    have KUr : Hid (∀ W, Below w1.heap.size w1 W → Calls Tryz.prog 10 #[.slice p1 a.length d1, .slice p2 b.length d2] W fun e w' => ∃ v', e = .returned v' ∧ Hid (IdsV w' v' (Id.unionL a b)) ∧ Below W.heap.size W w') := fun W hb => (unionRef_v (V1.out.keep hb) (V2.out.keep hb) (by omega)).mono fun e w' ⟨v', h1, h2, h3⟩ => ⟨v', h1, h2.ids, h3⟩
    have KM : Hid (∀ W, Below w1.heap.size w1 W → Calls Tryz.prog 11 #[.slice p1 a.length d1, .slice p2 b.length d2] W fun e w' => ∃ v', e = .returned v' ∧ Hid (IdsV w' v' (Id.minusL a b)) ∧ Below W.heap.size W w') := fun W hb => minus_v (V1.out.keep hb) (V2.out.keep hb) (by omega) (by omega)
    have KMr : Hid (∀ W, Below w1.heap.size w1 W → Calls Tryz.prog 12 #[.slice p1 a.length d1, .slice p2 b.length d2] W fun e w' => ∃ v', e = .returned v' ∧ Hid (IdsV w' v' (Id.minusL a b)) ∧ Below W.heap.size W w') := fun W hb => (minusRef_v (V1.out.keep hb) (V2.out.keep hb) (by omega) (by omega)).mono fun e w' ⟨v', h1, h2, h3⟩ => ⟨v', h1, h2.ids, h3⟩
    obtain ⟨q, hq⟩ : ∃ q, Id.hasB a (x1, x2) = q := ⟨_, rfl⟩
    have KH : Hid (∀ W, Below w1.heap.size w1 W → Calls Tryz.prog 13 #[.slice p1 a.length d1, .agg #[.int .i64 x1, .int .i64 x2]] W fun e w' => e = .returned (.bool q) ∧ Below W.heap.size W w') := fun W hb => by
      have := has_v (x1, x2) (V1.out.keep hb) (by omega)
      rw [hq] at this
      exact this
    have KHr : Hid (∀ W, Below w1.heap.size w1 W → Calls Tryz.prog 14 #[.slice p1 a.length d1, .agg #[.int .i64 x1, .int .i64 x2]] W fun e w' => e = .returned (.bool q) ∧ Below W.heap.size W w') := fun W hb => by
      have := hasRef_v (x1, x2) (V1.out.keep hb) (by omega)
      rw [hq] at this
      exact this
    have L1 : Hid ((Id.setL a).length ≤ 1000000) := Nat.le_trans (Id.setL_len a) (by omega)
    have L2 : Hid ((Id.unionL a b).length ≤ 1000000) := Nat.le_trans (unionL_len a b) (by omega)
    have L3 : Hid ((Id.minusL a b).length ≤ 1000000) := Nat.le_trans (minusL_len a b) (by omega)
    have f1 : (q == q) = true := by simp
    have HS0 : Hid (w1.cell? ⟨w.heap.size, 0, none⟩ = some (.int .i64 x1) ∧ w1.cell? ⟨w.heap.size, 1, none⟩ = some (.int .i64 x2) ∧ Hid (Below w1.heap.size w1 w1)) := ⟨y0, y1, Below.refl _ _⟩
    have HSd := Lib.hid (st_keep HS0.out (below_drew w1))
    clear hq V1 V2
    go_wp2_with fail
    go_region_held3 (fun w' => w'.cell? ⟨w.heap.size, 0, none⟩ = some (.int .i64 x1) ∧ w'.cell? ⟨w.heap.size, 1, none⟩ = some (.int .i64 x2) ∧ Hid (Below w1.heap.size w1 w')) (first | exact st_keep (by assumption) hb | exact HSd.out | exact st_keep (by assumption) (below_drew _)) (first
      | (go_at_call 7; (with_reducible refine (KS.out _ (st_below (by assumption))).mono ?_); rintro e w' ⟨v', rfl, hv, hb⟩)
      | (go_at_call 8; (with_reducible refine (KSr.out _ (st_below (by assumption))).mono ?_); rintro e w' ⟨v', rfl, hv, hb⟩)
      | (go_at_call 9; (with_reducible refine (KU.out _ (st_below (by assumption))).mono ?_); rintro e w' ⟨v', rfl, hv, hb⟩)
      | (go_at_call 10; (with_reducible refine (KUr.out _ (st_below (by assumption))).mono ?_); rintro e w' ⟨v', rfl, hv, hb⟩)
      | (go_at_call 11; (with_reducible refine (KM.out _ (st_below (by assumption))).mono ?_); rintro e w' ⟨v', rfl, hv, hb⟩)
      | (go_at_call 12; (with_reducible refine (KMr.out _ (st_below (by assumption))).mono ?_); rintro e w' ⟨v', rfl, hv, hb⟩)
      | (go_at_call 13; (with_reducible refine (KH.out _ (st_below (by assumption))).mono ?_); rintro e w' ⟨rfl, hb⟩)
      | (go_at_call 14; (with_reducible refine (KHr.out _ (st_below (by assumption))).mono ?_); rintro e w' ⟨rfl, hb⟩)
      | (go_at_call 6; (with_reducible refine (same_t (ids_later (by assumption) (by assumption)) (ids_now (by assumption)) L1.out).mono ?_); rintro e w' ⟨rfl, hb⟩)
      | (go_at_call 6; (with_reducible refine (same_t (ids_later (by assumption) (by assumption)) (ids_now (by assumption)) L2.out).mono ?_); rintro e w' ⟨rfl, hb⟩)
      | (go_at_call 6; (with_reducible refine (same_t (ids_later (by assumption) (by assumption)) (ids_now (by assumption)) L3.out).mono ?_); rintro e w' ⟨rfl, hb⟩))
    rename_i hheld
    have HF := Lib.hid (HB1.out.trans ((st_below hheld).mono HB1.out.size))
    clear hheld
    go_wp2_with fail
    go_ret
    exact ⟨rfl, HF.out⟩
  · have hl : 20 < a.length ∨ (a.length ≤ 20 ∧ 20 < b.length) := by omega
    clear hlen
    rcases hl with la | ⟨la, lb⟩
    all_goals
      go_enter Tryz.func3, Tryz.ntmps3
      go_wp2_with fail
      refine HA.out.mono ?_
      rintro e w1 ⟨rfl, hb1⟩
      have HB1 := Lib.hid (HBX.out.trans (hb1.mono (by simp)))
      clear hb1 c0 c1 HA H1 H2 HBX
      go_wp2_with fail
      go_ret
      exact ⟨rfl, HB1.out⟩
end Go.Proofs.YtlhkkniebaganaaGreatDoor
