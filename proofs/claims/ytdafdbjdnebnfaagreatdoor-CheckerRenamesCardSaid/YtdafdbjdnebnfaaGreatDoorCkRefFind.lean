/-
  The reference's Class and Method, walked.
-/
import Derived.Test.YtdafdbjdnebnfaaGreatDoorCkFind
namespace Go.Proofs.YtdafdbjdnebnfaaGreatDoor
open Go.RowKit

set_option maxRecDepth 100000 in
set_option maxHeartbeats 2000000 in
theorem refClass_any (nm : ByteArray) (cs : List Tr.C) (v : Value) (w : World) (h : SlC w v cs) :
    Calls Tryz.prog 19 #[.agg #[v], .string nm] w fun e w' => e = .returned (.tuple #[.int .i64 ((Ck.classAt cs nm).getD 0 : Nat), .bool (Ck.classAt cs nm).isSome]) ∧ Below w.heap.size w w' := by
  obtain ⟨p, c, rfl⟩ := h.form
  have hll := h.len
  unfold maxLen at hll
  obtain ⟨N, hN⟩ : ∃ N, cs.length = N := ⟨_, rfl⟩
  have HN := Lib.hid hN
  rw [hN] at h hll ⊢
  clear hN
  have hbx := below_box w (.cells #[.slice p N c] 24)
  have HS := Lib.hid (h.keep hbx)
  have HB := Lib.hid hbx
  have HBC := Lib.hid (box_cell w #[.slice p N c] 24 0 _ rfl)
  obtain ⟨w1, hw1⟩ : ∃ w1, w1 = w.alloc (.cells #[.slice p N c] 24) := ⟨_, rfl⟩
  rw [← hw1] at HS HB HBC
  clear h hbx
  go_enter Tryz.func19, Tryz.ntmps19
  go_wp2
  rw [← hw1]
  clear hw1
  go_loopw [6] (fun s6 wr => ∃ j : Nat, s6 = .int .i64 j ∧ j ≤ N ∧ (∀ t x, t < j → cs[t]? = some x → decide (x.name = nm) = false) ∧ Hid (Below w1.heap.size w1 wr)) (fun s6 _ => N - (intOf s6).toNat)
  case atStart => exact ⟨0, rfl, Nat.zero_le _, fun t x ht => by omega, Lib.hid (Below.refl _ _)⟩
  case round =>
    obtain ⟨j, rfl, hj, hall, HBR⟩ := hrel
    have HA := Lib.hid hall
    have c0 := cell_keep' HBR.out HBC.out
    clear hall
    by_cases hlt : j < N
    · obtain ⟨x, hx⟩ : ∃ x, cs[j]? = some x := ⟨_, List.getElem?_eq_getElem (by rw [HN.out]; exact hlt)⟩
      obtain ⟨b, oo, a1, a2, rfl, _, hc, hnm, hsp, hsb⟩ := (HS.out.keep HBR.out).get hx
      have x0 := hc.1
      have HX := Lib.hid hx
      clear hx hc hnm hsp hsb
      cases hv : decide (x.name = nm)
      · have hq : (x.name.toList == nm.toList) = false := by rw [bytes_beq, hv]
        have HV := Lib.hid hv
        clear hv
        go_wp2_with fail
        go_roundw
        case rel =>
          refine ⟨j + 1, by go_num, by omega, fun t y ht hty => ?_, HBR⟩
          by_cases e : t = j
          · subst e; rw [HX.out] at hty; cases hty; exact HV.out
          · exact HA.out t y (by omega) hty
        case measure => simp [intOf]; omega
      · have hq : (x.name.toList == nm.toList) = true := by rw [bytes_beq, hv]
        have hf : Hid (Ck.classAt cs nm = some j) := find_hit HA.out HX.out hv
        clear hv
        go_wp2_with fail
        go_ret2
        exact ⟨by rw [hf.out]; rfl, HB.out.trans (HBR.out.mono HB.out.size)⟩
    · have hf : Hid (Ck.classAt cs nm = none) := find_no (n := N) HN.out (fun t x ht => HA.out t x (by omega))
      go_wp2_with fail
      go_ret2
      exact ⟨by rw [hf.out]; rfl, HB.out.trans (HBR.out.mono HB.out.size)⟩

set_option maxRecDepth 100000 in
set_option maxHeartbeats 2000000 in
theorem refMethod_any (nm : ByteArray) (cl : Tr.C) (fv v : Value) (w : World) (hfv : SlStr w fv cl.fields) (h : SlM w v cl.methods) :
    Calls Tryz.prog 21 #[classV cl fv v, .string nm] w fun e w' => e = .returned (.tuple #[.int .i64 ((Ck.methodAt cl.methods nm).getD 0 : Nat), .bool (Ck.methodAt cl.methods nm).isSome]) ∧ Below w.heap.size w w' := by
  obtain ⟨pf, cf, rfl⟩ := hfv.form
  obtain ⟨FN, hFN⟩ : ∃ N, cl.fields.length = N := ⟨_, rfl⟩
  obtain ⟨p, c, rfl⟩ := h.form
  have hll := h.len
  unfold maxLen at hll
  obtain ⟨N, hN⟩ : ∃ N, cl.methods.length = N := ⟨_, rfl⟩
  have HN := Lib.hid hN
  rw [hN] at h hll ⊢
  unfold classV
  rw [hFN]
  clear hN hFN hfv
  have hbx := below_box w (.cells #[.string cl.name, .bool cl.actor, .slice pf FN cf, .slice p N c] 36)
  have HS := Lib.hid (h.keep hbx)
  have HB := Lib.hid hbx
  have HBC := Lib.hid (box_cell w #[.string cl.name, .bool cl.actor, .slice pf FN cf, .slice p N c] 36 3 _ rfl)
  obtain ⟨w1, hw1⟩ : ∃ w1, w1 = w.alloc (.cells #[.string cl.name, .bool cl.actor, .slice pf FN cf, .slice p N c] 36) := ⟨_, rfl⟩
  rw [← hw1] at HS HB HBC
  clear h hbx
  go_enter Tryz.func21, Tryz.ntmps21
  go_wp2
  rw [← hw1]
  clear hw1
  go_loopw [6] (fun s6 wr => ∃ j : Nat, s6 = .int .i64 j ∧ j ≤ N ∧ (∀ t x, t < j → cl.methods[t]? = some x → decide (x.name = nm) = false) ∧ Hid (Below w1.heap.size w1 wr)) (fun s6 _ => N - (intOf s6).toNat)
  case atStart => exact ⟨0, rfl, Nat.zero_le _, fun t x ht => by omega, Lib.hid (Below.refl _ _)⟩
  case round =>
    obtain ⟨j, rfl, hj, hall, HBR⟩ := hrel
    have HA := Lib.hid hall
    have c0 := cell_keep' HBR.out HBC.out
    clear hall
    by_cases hlt : j < N
    · obtain ⟨x, hx⟩ : ∃ x, cl.methods[j]? = some x := ⟨_, List.getElem?_eq_getElem (by rw [HN.out]; exact hlt)⟩
      obtain ⟨b, oo, a1, a2, rfl, _, hc, hnm, hsp, hsb⟩ := (HS.out.keep HBR.out).get hx
      have x0 := hc.1
      have HX := Lib.hid hx
      clear hx hc hnm hsp hsb
      cases hv : decide (x.name = nm)
      · have hq : (x.name.toList == nm.toList) = false := by rw [bytes_beq, hv]
        have HV := Lib.hid hv
        clear hv
        go_wp2_with fail
        go_roundw
        case rel =>
          refine ⟨j + 1, by go_num, by omega, fun t y ht hty => ?_, HBR⟩
          by_cases e : t = j
          · subst e; rw [HX.out] at hty; cases hty; exact HV.out
          · exact HA.out t y (by omega) hty
        case measure => simp [intOf]; omega
      · have hq : (x.name.toList == nm.toList) = true := by rw [bytes_beq, hv]
        have hf : Hid (Ck.methodAt cl.methods nm = some j) := find_hit HA.out HX.out hv
        clear hv
        go_wp2_with fail
        go_ret2
        exact ⟨by rw [hf.out]; rfl, HB.out.trans (HBR.out.mono HB.out.size)⟩
    · have hf : Hid (Ck.methodAt cl.methods nm = none) := find_no (n := N) HN.out (fun t x ht => HA.out t x (by omega))
      go_wp2_with fail
      go_ret2
      exact ⟨by rw [hf.out]; rfl, HB.out.trans (HBR.out.mono HB.out.size)⟩
end Go.Proofs.YtdafdbjdnebnfaaGreatDoor
