/-
  The reference's has, twice and Lets, walked.
-/
import Derived.Test.YtdafdbjdnebnfaaGreatDoorCkExpr
import Derived.Deep.QuietTactic
import Derived.BigQuiet
namespace Go.Proofs.YtdafdbjdnebnfaaGreatDoor
open Go.RowKit

theorem quietB {w0 w : World} {q : Nat} (h : Below w0.heap.size w0 w) : Below w0.heap.size w0 (w.drewN q) := ⟨h.os, h.tape, h.output, h.size, h.block⟩
theorem hasS_hit {l : List ByteArray} {j : Nat} {x s : ByteArray} (hj : l[j]? = some x) (hx : decide (x = s) = true) : Ck.hasS l s = true := by
  unfold Ck.hasS; exact List.any_eq_true.2 ⟨x, List.mem_of_getElem? hj, hx⟩
theorem hasS_no {l : List ByteArray} {s : ByteArray} {n : Nat} (hn : l.length = n) (h : ∀ t x, t < n → l[t]? = some x → decide (x = s) = false) : Ck.hasS l s = false := by
  unfold Ck.hasS
  rw [List.any_eq_false]
  intro x hx
  obtain ⟨t, ht, rfl⟩ := List.getElem_of_mem hx
  rw [h t _ (by omega) (List.getElem?_eq_getElem ht)]
  exact Bool.false_ne_true
theorem hasS_app (l r : List ByteArray) (s : ByteArray) : Ck.hasS (l ++ r) s = (Ck.hasS l s || Ck.hasS r s) := by unfold Ck.hasS; rw [List.any_append]
theorem twice_snoc (l : List ByteArray) (x : ByteArray) : Ck.twice (l ++ [x]) = (Ck.twice l || Ck.hasS l x) := by
  induction l with
  | nil => rfl
  | cons y r ih =>
    rw [List.cons_append, Ck.twice, Ck.twice, ih, hasS_app]
    have e : Ck.hasS [x] y = decide (y = x) := by unfold Ck.hasS; simp [eq_comm]
    have e2 : Ck.hasS (y :: r) x = (decide (y = x) || Ck.hasS r x) := rfl
    rw [e, e2]
    cases Ck.hasS r y <;> cases decide (y = x) <;> cases Ck.twice r <;> cases Ck.hasS r x <;> rfl
theorem twice_app (l r : List ByteArray) (h : Ck.twice l = true) : Ck.twice (l ++ r) = true := by
  induction l with
  | nil => cases h
  | cons y q ih =>
    rw [Ck.twice, Bool.or_eq_true] at h
    rw [List.cons_append, Ck.twice, Bool.or_eq_true, hasS_app, Bool.or_eq_true]
    rcases h with h | h
    · exact .inl (.inl h)
    · exact .inr (ih h)
theorem twice_take {l : List ByteArray} {k : Nat} (h : Ck.twice (l.take k) = true) : Ck.twice l = true := by
  have := twice_app _ (l.drop k) h
  rw [List.take_append_drop] at this
  exact this
theorem SlStr.take {w : World} {p : Option Addr} {n c : Nat} {l : List ByteArray} (h : SlStr w (.slice p n c) l) {k : Nat} (hk : k ≤ l.length) : SlStr w (.slice p k c) (l.take k) := by
  obtain ⟨p', c', e, hl, hn, hx⟩ := h
  cases e
  refine ⟨p, c, by rw [List.length_take, Nat.min_eq_left hk], by rw [List.length_take]; omega, fun hne => ?_, fun j s hj => ?_⟩
  · have : l ≠ [] := by rintro rfl; simp at hne
    have := hn this
    rw [List.length_take]; omega
  · have hlt : j < k := by have := (List.getElem?_eq_some_iff.1 hj).1; rw [List.length_take] at this; omega
    rw [List.getElem?_take_of_lt hlt] at hj
    exact hx j s hj

set_option maxRecDepth 100000 in
set_option maxHeartbeats 2000000 in
theorem has_any (s : ByteArray) (v : Value) (l : List ByteArray) (w : World) (h : SlStr w v l) :
    Calls Tryz.prog 42 #[v, .string s] w fun e w' => e = .returned (.bool (Ck.hasS l s)) ∧ w' = w := by
  obtain ⟨p, c, rfl, hl, hn, hx⟩ := h
  unfold maxLen at hl
  obtain ⟨N, hN⟩ : ∃ N, l.length = N := ⟨_, rfl⟩
  rw [hN] at hl ⊢
  have HX := Lib.hid hx
  have HN := Lib.hid hN
  clear hx hn hN
  go_enter Tryz.func42, Tryz.ntmps42
  go_wp2
  go_loop [5] (fun s5 => ∃ j : Nat, s5 = .int .i64 j ∧ j ≤ N ∧ (∀ t x, t < j → l[t]? = some x → decide (x = s) = false)) (fun s5 => N - (intOf s5).toNat)
  case atStart => exact ⟨0, rfl, Nat.zero_le _, fun t x ht => by omega⟩
  case round =>
    obtain ⟨j, rfl, hj, hall⟩ := hrel
    have HA := Lib.hid hall
    clear hall
    by_cases hlt : j < N
    · obtain ⟨x, hjx⟩ : ∃ x, l[j]? = some x := ⟨_, List.getElem?_eq_getElem (by rw [HN.out]; exact hlt)⟩
      obtain ⟨_, b, o, rfl, _, hc⟩ := HX.out j x hjx
      have HJ := Lib.hid hjx
      clear hjx
      cases hv : decide (x = s)
      · have hq : (x.toList == s.toList) = false := by rw [bytes_beq, hv]
        have HV := Lib.hid hv
        clear hv
        go_wp2_with fail
        go_round
        case rel =>
          refine ⟨j + 1, by go_num, by omega, fun t y ht hty => ?_⟩
          by_cases e : t = j
          · subst e; rw [HJ.out] at hty; cases hty; exact HV.out
          · exact HA.out t y (by omega) hty
        case measure => simp [intOf]; omega
      · have hq : (x.toList == s.toList) = true := by rw [bytes_beq, hv]
        have hf : Hid (Ck.hasS l s = true) := hasS_hit HJ.out hv
        clear hv
        go_wp2_with fail
        go_ret
        exact ⟨by rw [hf.out]; rfl, rfl⟩
    · have hf : Hid (Ck.hasS l s = false) := hasS_no (n := N) HN.out (fun t x ht => HA.out t x (by omega))
      go_wp2_with fail
      go_ret
      exact ⟨by rw [hf.out]; rfl, rfl⟩

set_option maxRecDepth 100000 in
set_option maxHeartbeats 2000000 in
theorem twiceR_any (v : Value) (l : List ByteArray) (w : World) (h : SlStr w v l) :
    Calls Tryz.prog 61 #[v] w fun e w' => e = .returned (.bool (Ck.twice l)) ∧ Below w.heap.size w w' := by
  have HS := Lib.hid h
  obtain ⟨p, c, rfl, hl, hn, hx⟩ := h
  unfold maxLen at hl
  obtain ⟨N, hN⟩ : ∃ N, l.length = N := ⟨_, rfl⟩
  rw [hN] at hl HS ⊢
  have HX := Lib.hid hx
  have HN := Lib.hid hN
  have hn2 : 0 < N → N ≤ c ∧ c ≤ 9223372036854775807 := fun h0 => by
    have := hn (by rintro rfl; simp at hN; omega)
    unfold maxLen at this
    rw [hN] at this
    exact this
  clear hx hn hN
  go_enter Tryz.func61, Tryz.ntmps61
  go_wp2
  go_loopw [3] (fun s3 wr => ∃ j : Nat, s3 = .int .i64 j ∧ j ≤ N ∧ Hid (Ck.twice (l.take j) = false) ∧ Hid (Below w.heap.size w wr)) (fun s3 _ => N - (intOf s3).toNat)
  case atStart => exact ⟨0, rfl, Nat.zero_le _, Lib.hid (by rw [List.take_zero]; rfl), Lib.hid (Below.refl _ _)⟩
  case round =>
    obtain ⟨j, rfl, hj, HA, HBR⟩ := hrel
    by_cases hlt : j < N
    · obtain ⟨x, hjx⟩ : ∃ x, l[j]? = some x := ⟨_, List.getElem?_eq_getElem (by rw [HN.out]; exact hlt)⟩
      obtain ⟨_, b, o, rfl, _, hc0⟩ := HX.out j x hjx
      have hc := cell_keep' HBR.out hc0
      obtain ⟨hnc, hcm⟩ := hn2 (by omega)
      have hsn := twice_snoc (l.take j) x
      rw [← take_get hjx, HA.out, Bool.false_or] at hsn
      have HSN := Lib.hid hsn
      have HK := Lib.hid fun (W : World) (hb : Below wr.heap.size wr W) => has_any x _ (l.take j) W (((HS.out.take (by rw [HN.out]; exact hj)).keep HBR.out).keep hb)
      have b1 : (0 : Int) ≤ (j : Int) := by omega
      have b2 : (j : Int) ≤ (c : Int) := by omega
      have b3 : (j : Int) < (N : Int) := by omega
      clear hc0 hjx hsn hn2
      cases hv : Ck.hasS (l.take j) x
      · rw [hv] at HK HSN
        clear hv
        go_wp2_with fail
        go_quiet ((go_at_call 42; exact Calls.quiet_of_same (HK.out _ (by first | exact Below.refl _ _ | exact (Below.refl _ _).drew | exact (Below.refl _ _).drew.drew | exact quietB (Below.refl _ _)))))
        go_wp2_with fail
        go_roundw
        case rel => exact ⟨j + 1, by go_num, by omega, HSN, Lib.hid (quietB HBR.out)⟩
        case measure => simp [intOf]; omega
      · rw [hv] at HK HSN
        have hf : Hid (Ck.twice l = true) := twice_take HSN.out
        clear hv
        go_wp2_with fail
        go_quiet ((go_at_call 42; exact Calls.quiet_of_same (HK.out _ (by first | exact Below.refl _ _ | exact (Below.refl _ _).drew | exact (Below.refl _ _).drew.drew | exact quietB (Below.refl _ _)))))
        go_wp2_with fail
        go_ret
        exact ⟨by rw [hf.out]; rfl, quietB HBR.out⟩
    · have hf : Hid (Ck.twice l = false) := by
        have := HA.out
        rw [List.take_of_length_le (by rw [HN.out]; omega)] at this
        exact this
      go_wp2_with fail
      go_ret
      exact ⟨by rw [hf.out]; rfl, HBR.out⟩

theorem letsR_keep {B o o2 : Nat} {u v : Value} {wb w0 w' : World} (h : w0.cell? ⟨B, o, none⟩ = some u ∧ w0.cell? ⟨B, o2, none⟩ = some v ∧ Hid (Below wb.heap.size wb w0)) (hb : Below w0.heap.size w0 w') :
    w'.cell? ⟨B, o, none⟩ = some u ∧ w'.cell? ⟨B, o2, none⟩ = some v ∧ Hid (Below wb.heap.size wb w') := ⟨cell_keep' hb h.1, cell_keep' hb h.2.1, below_next h.2.2.out hb⟩

set_option maxRecDepth 100000 in
set_option maxHeartbeats 2000000 in
theorem letsR_any : ∀ (d : Nat) (l : List Tr.S) (v : Value) (w : World), Tr.S.deep.deeps l ≤ d → SlS w v l → Ck.lets l ≤ 1000000 →
    Calls Tryz.prog 63 #[v] w fun e w' => e = .returned (.int .i64 (Ck.lets l)) ∧ Below w.heap.size w w' := by
  intro d
  induction d using Nat.strongRecOn with
  | ind d ih =>
    intro l v w hd h hbd
    obtain ⟨p, c, rfl, hcap⟩ := h.form
    have hll := h.len
    unfold maxLen at hll
    obtain ⟨N, hN⟩ : ∃ N, l.length = N := ⟨_, rfl⟩
    rw [hN] at h hll ⊢
    have HS := Lib.hid h
    have HN := Lib.hid hN
    have HIH := Lib.hid ih
    have HD := Lib.hid hd
    have HBD := Lib.hid hbd
    clear h hN ih hd hbd hcap
    go_enter Tryz.func63, Tryz.ntmps63
    go_wp2
    go_loopw [3, 4] (fun s3 s8 wr => ∃ k m : Nat, s8 = .int .i64 k ∧ k ≤ N ∧ s3 = .int .i64 m ∧ m = Ck.lets (l.take k) ∧ Below w.heap.size w wr) (fun _ s8 _ => N - (intOf s8).toNat)
    case atStart => exact ⟨0, 0, rfl, Nat.zero_le _, rfl, by simp [Ck.lets], Below.refl _ _⟩
    case round =>
      obtain ⟨k, m, rfl, hk, rfl, hm, hbr⟩ := hrel
      have HM := Lib.hid hm
      have HBR := Lib.hid hbr
      by_cases hlt : k < N
      · obtain ⟨x, hx⟩ : ∃ x, l[k]? = some x := ⟨_, List.getElem?_eq_getElem (by rw [HN.out]; exact hlt)⟩
        obtain ⟨b, oo, vx, vy, vz, rfl, hblt, hc, hbd, hsx, hsy, hsz⟩ := (HS.out.keep hbr).get hx
        obtain ⟨x0, x1, x2, x3, x4⟩ := hc
        obtain ⟨py, cy, rfl, _⟩ := hsy.form
        obtain ⟨pz, cz, rfl, _⟩ := hsz.form
        have hnext := lets_next hx
        have htk := lets_take_le l (k + 1)
        have hle := HBD.out
        obtain ⟨dp1, dp2, dp3⟩ := Tr.S.deep_in HD.out hx
        obtain ⟨y, hy⟩ : ∃ y, Ck.lets x.body = y := ⟨_, rfl⟩
        obtain ⟨z, hz⟩ : ∃ y, Ck.lets x.els = y := ⟨_, rfl⟩
        rw [hy, hz] at hnext
        have K1 : Hid (∀ W, Below wr.heap.size wr W → Calls Tryz.prog 63 #[.slice py x.body.length cy] W fun e w' => e = .returned (.int .i64 y) ∧ Below W.heap.size W w') := fun W hb => hy ▸ HIH.out (d - 1) (by omega) x.body _ W dp2 (hsy.keep hb) (by omega)
        have K2 : Hid (∀ W, Below wr.heap.size wr W → Calls Tryz.prog 63 #[.slice pz x.els.length cz] W fun e w' => e = .returned (.int .i64 z) ∧ Below W.heap.size W w') := fun W hb => hz ▸ HIH.out (d - 1) (by omega) x.els _ W dp3 (hsz.keep hb) (by omega)
        have hbd2 : m + (y + z) + 1 ≤ 1000001 := by rw [hnext, ← hm] at htk; split at htk <;> omega
        by_cases hk0 : x.kind = 0
        · have hk1 : (x.kind == 0) = true := beq_iff_eq.2 hk0
          have HNX := Lib.hid (show Ck.lets (l.take (k + 1)) = Ck.lets (l.take k) + (1 + y + z) by rw [hnext, if_pos hk0])
          have hbd3 : m + (y + z) + 1 ≤ 1000000 := by rw [hnext, ← hm, if_pos hk0] at htk; omega
          clear hx hbr hsx hsy hsz hbd hnext htk hle dp1 dp2 dp3 hk0 hy hz hm
          have hs1 : IntKind.i64.wrap ((m : Int) + 1 + (y : Int)) = (m : Int) + 1 + (y : Int) := IntWalk.i64_in _ (by omega)
          have hs2 : IntKind.i64.wrap ((m : Int) + 1 + (y : Int) + (z : Int)) = (m : Int) + 1 + (y : Int) + (z : Int) := IntWalk.i64_in _ (by omega)
          have b1 : (0 : Int) ≤ (k : Int) := by omega
          have b3 : (k : Int) < (N : Int) := by omega
          go_wp2_with fail
          clear hbd2 hbd3
          go_region_held3 (fun w' => w'.cell? ⟨b, oo + k * 5 + 3, none⟩ = some (.slice py x.body.length cy) ∧ w'.cell? ⟨b, oo + k * 5 + 4, none⟩ = some (.slice pz x.els.length cz) ∧ Hid (Below wr.heap.size wr w')) (first | exact letsR_keep (by assumption) hb | exact ⟨x3, x4, Lib.hid (Below.refl _ _)⟩ | exact ⟨x3, x4, Lib.hid (Below.refl _ _).drew⟩ | go_keep) (first | (go_at_call 63; (with_reducible refine (K1.out _ (lets_below (by assumption))).mono ?_); rintro e w' ⟨rfl, hb⟩) | (go_at_call 63; (with_reducible refine (K2.out _ (lets_below (by assumption))).mono ?_); rintro e w' ⟨rfl, hb⟩))
          all_goals
            have hbf := lets_below (by assumption)
            clear hs1 hs2
            go_wp2_with fail
            go_roundw
            case rel => exact ⟨k + 1, m + 1 + y + z, by go_num, by omega, by go_num, by rw [HNX.out, ← HM.out]; omega, below_next HBR.out hbf⟩
            case measure => simp [intOf]; omega
        · have hk1 : (x.kind == 0) = false := beq_eq_false_iff_ne.2 hk0
          have HNX := Lib.hid (show Ck.lets (l.take (k + 1)) = Ck.lets (l.take k) + (0 + y + z) by rw [hnext, if_neg hk0])
          clear hx hbr hsx hsy hsz hbd hnext htk hle dp1 dp2 dp3 hk0 hy hz hm
          have hs1 : IntKind.i64.wrap ((m : Int) + (y : Int)) = (m : Int) + (y : Int) := IntWalk.i64_in _ (by omega)
          have hs2 : IntKind.i64.wrap ((m : Int) + (y : Int) + (z : Int)) = (m : Int) + (y : Int) + (z : Int) := IntWalk.i64_in _ (by omega)
          have b1 : (0 : Int) ≤ (k : Int) := by omega
          have b3 : (k : Int) < (N : Int) := by omega
          go_wp2_with fail
          clear hbd2
          go_region_held3 (fun w' => w'.cell? ⟨b, oo + k * 5 + 3, none⟩ = some (.slice py x.body.length cy) ∧ w'.cell? ⟨b, oo + k * 5 + 4, none⟩ = some (.slice pz x.els.length cz) ∧ Hid (Below wr.heap.size wr w')) (first | exact letsR_keep (by assumption) hb | exact ⟨x3, x4, Lib.hid (Below.refl _ _)⟩ | exact ⟨x3, x4, Lib.hid (Below.refl _ _).drew⟩ | go_keep) (first | (go_at_call 63; (with_reducible refine (K1.out _ (lets_below (by assumption))).mono ?_); rintro e w' ⟨rfl, hb⟩) | (go_at_call 63; (with_reducible refine (K2.out _ (lets_below (by assumption))).mono ?_); rintro e w' ⟨rfl, hb⟩))
          all_goals
            have hbf := lets_below (by assumption)
            clear hs1 hs2
            go_wp2_with fail
            go_roundw
            case rel => exact ⟨k + 1, m + y + z, by go_num, by omega, by go_num, by rw [HNX.out, ← HM.out]; omega, below_next HBR.out hbf⟩
            case measure => simp [intOf]; omega
      · have hfull : l.take k = l := List.take_of_length_le (by rw [HN.out]; omega)
        rw [hfull] at hm
        have HM2 := Lib.hid hm
        clear hbr hm hfull
        go_wp2
        go_ret
        exact ⟨by rw [HM2.out]; rfl, HBR.out⟩
end Go.Proofs.YtdafdbjdnebnfaaGreatDoor
