/-
  CheckerFaults, walked.
-/
import Derived.Test.YtdafdbjdnebnfaaGreatDoorCkLawFinds
import Derived.Test.YtdafdbjdnebnfaaGreatDoorCkRefCheck
namespace Go.Proofs.YtdafdbjdnebnfaaGreatDoor
open Go.RowKit Go.Maps

theorem fk_keep {q : Addr} {a : Value} {w0 W W' : World} (h : W.cell? q = some a ∧ Hid (Below w0.heap.size w0 W)) (hb : Below W.heap.size W W') : W'.cell? q = some a ∧ Hid (Below w0.heap.size w0 W') :=
  ⟨(grown_of_below (r := none) hb).cell h.1 (by simp), Lib.hid (below_next h.2.out hb)⟩
theorem fk_below {p : Prop} {w0 W : World} (h : p ∧ Hid (Below w0.heap.size w0 W)) : Below w0.heap.size w0 W := h.2.out
theorem fk_now {w0 : World} {a : Value} {W : World} {q : Addr} (h : W.cell? q = some a ∧ Hid (Below w0.heap.size w0 W)) : Below w0.heap.size w0 W := h.2.out
/-- the contract of few at whatever block -/
theorem few_at {cs : List Tr.C} {pv : Option Addr} {CN cpv : Nat} {w W : World} (hS : SlC w (.slice pv CN cpv) cs) (hb : Below w.heap.size w W) (hc : W.cell? ⟨W.heap.size - 1, 0, none⟩ = some (.slice pv CN cpv)) :
    Calls Tryz.prog 10 #[.slice (some ⟨W.heap.size - 1, 0, none⟩) 1 1] W fun e w' => e = .returned (.bool (Tr.fewP cs 300)) ∧ Below W.heap.size W w' :=
  lawFew_any _ cs W _ 1 hc (hS.keep hb)

set_option maxRecDepth 100000 in
set_option maxHeartbeats 20000000 in
theorem law_faults (v : Value) (cs : List Tr.C) (w : World) (hE : CkEnv w) (h : SlC w v cs) :
    Calls Tryz.prog 3 #[.agg #[v]] w fun e w' => e = .returned (.bool true) ∧ Below w.heap.size w w' := by
  have HE := Lib.hid hE
  have HS := Lib.hid h
  obtain ⟨pv, cpv, rfl⟩ := h.form
  obtain ⟨CN, hCN⟩ : ∃ q, cs.length = q := ⟨_, rfl⟩
  rw [hCN] at HS ⊢
  have KA : Hid (∀ W, Below w.heap.size w W → Calls Tryz.prog 14 #[] W fun e w' => e = .returned (.bool true) ∧ Below W.heap.size W w') := fun W hb => awake40_any W (HE.out.keep hb)
  have hbx := below_box w (.cells #[.slice pv CN cpv] 24)
  have c0 := box_cell w #[.slice pv CN cpv] 24 0 _ rfl
  obtain ⟨w1, hw1⟩ : ∃ q, q = w.alloc (.cells #[.slice pv CN cpv] 24) := ⟨_, rfl⟩
  rw [← hw1] at hbx c0
  have HW1 := Lib.hid hw1
  have HB1 := Lib.hid hbx
  have hlt := cell_lt' c0
  have hb2 := below_next hbx ((below_box w1 (.cells #[.slice pv CN cpv] 24)).drew)
  have KF1 : Hid (Calls Tryz.prog 10 #[.slice (some ⟨w1.heap.size, 0, none⟩) 1 1] (w1.alloc (.cells #[.slice pv CN cpv] 24)).drew fun e w' => e = .returned (.bool (Tr.fewP cs 300)) ∧ Below (w1.alloc (.cells #[.slice pv CN cpv] 24)).drew.heap.size (w1.alloc (.cells #[.slice pv CN cpv] 24)).drew w') :=
    lawFew_any _ cs _ _ 1 (show (w1.alloc (.cells #[.slice pv CN cpv] 24)).cell? _ = _ from box_cell w1 #[.slice pv CN cpv] 24 0 _ rfl) (HS.out.keep hb2)
  clear hE h hCN hw1 hbx hb2
  cases hq : Tr.fewP cs 300
  · rw [hq] at KF1
    clear hq
    go_enter Tryz.func3, Tryz.ntmps3
    go_upto_region 1 with fail
    rw [← HW1.out]
    clear HW1
    refine wp_region_held_drew (S := fun w' => w'.cell? ⟨w.heap.size, 0, none⟩ = some (.slice pv CN cpv) ∧ Hid (Below w.heap.size w w')) (by kernel_rfl) ?_ (fun hHeld => ?_)
    · exact ⟨c0, Lib.hid HB1.out.drew⟩
    refine wpAnyH_take (i := 0) (oi := ⟨some 3, _, _, _, _, _⟩) (v := ?_) rfl (by kernel_rfl) (by kernel_rfl) (by kernel_rfl) (fun _ _ _ h => h) (Or.inl ⟨by rfl, ?_⟩) (by assumption) ?_
    rotate_left
    · (intro w hSw; (try dsimp only at hSw); go_simp; (try with_reducible rfl))
    try simp only [Act.put, List.setIfInBounds_toArray, List.set_cons_zero, List.set_cons_succ]
    refine wpAnyH_ready (rs := [1]) (by kernel_rfl) (by simp) ?_
    refine AllReadyH.cons (o := ⟨some 4, _, _, _, _, _⟩) rfl (fun K hK => ?_) AllReadyH.nil
    go_simp
    refine hK.out _ _ ?_ (fun hHeld => ?_)
    · exact fk_keep hHeld (below_box _ _)
    clear hK K
    try simp only [Act.put, List.setIfInBounds_toArray, List.set_cons_zero, List.set_cons_succ]
    refine wpAnyH_ready (rs := [2]) (by kernel_rfl) (by simp) ?_
    refine AllReadyH.cons (o := ⟨some 5, _, _, _, _, _⟩) rfl (fun K hK => ?_) AllReadyH.nil
    go_simp
    with_reducible refine KF1.out.mono ?_
    rintro e w' ⟨rfl, hb⟩
    go_wp2_with fail
    refine hK.out _ _ ?_ (fun hHeld => ?_)
    · exact fk_keep (by assumption) hb
    clear hK K
    try simp only [Act.put, List.setIfInBounds_toArray, List.set_cons_zero, List.set_cons_succ]
    refine wpAnyH_take (i := 3) (oi := ⟨some 6, _, _, _, _, _⟩) (v := ?_) rfl (by kernel_rfl) (by kernel_rfl) (by kernel_rfl) (fun _ _ _ h => h) (Or.inl ⟨by rfl, ?_⟩) (by assumption) ?_
    rotate_left
    · (intro w hSw; (try dsimp only at hSw); go_simp; (try with_reducible rfl))
    try simp only [Act.put, List.setIfInBounds_toArray, List.set_cons_zero, List.set_cons_succ]
    refine wpAnyH_take (i := 4) (oi := ⟨some 7, _, _, _, _, _⟩) (v := ?_) rfl (by kernel_rfl) (by kernel_rfl) (by kernel_rfl) (fun _ _ _ h => h) (Or.inl ⟨by rfl, ?_⟩) (by assumption) ?_
    rotate_left
    · (intro w hSw; (try dsimp only at hSw); go_simp; (try with_reducible rfl))
    try simp only [Act.put, List.setIfInBounds_toArray, List.set_cons_zero, List.set_cons_succ]
    refine wpAnyH_take (i := 5) (oi := ⟨some 8, _, _, _, _, _⟩) (v := undef) rfl (by kernel_rfl) (by kernel_rfl) (by kernel_rfl) (fun _ _ _ h => h) (Or.inr ⟨by rfl, rfl⟩) (by assumption) ?_
    try simp only [Act.put, List.setIfInBounds_toArray, List.set_cons_zero, List.set_cons_succ]
    refine wpAnyH_take (i := 6) (oi := ⟨some 9, _, _, _, _, _⟩) (v := undef) rfl (by kernel_rfl) (by kernel_rfl) (by kernel_rfl) (fun _ _ _ h => h) (Or.inr ⟨by rfl, rfl⟩) (by assumption) ?_
    try simp only [Act.put, List.setIfInBounds_toArray, List.set_cons_zero, List.set_cons_succ]
    refine wpAnyH_take (i := 7) (oi := ⟨some 10, _, _, _, _, _⟩) (v := undef) rfl (by kernel_rfl) (by kernel_rfl) (by kernel_rfl) (fun _ _ _ h => h) (Or.inr ⟨by rfl, rfl⟩) (by assumption) ?_
    try simp only [Act.put, List.setIfInBounds_toArray, List.set_cons_zero, List.set_cons_succ]
    refine wpAnyH_take (i := 8) (oi := ⟨some 11, _, _, _, _, _⟩) (v := undef) rfl (by kernel_rfl) (by kernel_rfl) (by kernel_rfl) (fun _ _ _ h => h) (Or.inr ⟨by rfl, rfl⟩) (by assumption) ?_
    try simp only [Act.put, List.setIfInBounds_toArray, List.set_cons_zero, List.set_cons_succ]
    refine wpAnyH_take (i := 9) (oi := ⟨some 12, _, _, _, _, _⟩) (v := undef) rfl (by kernel_rfl) (by kernel_rfl) (by kernel_rfl) (fun _ _ _ h => h) (Or.inr ⟨by rfl, rfl⟩) (by assumption) ?_
    try simp only [Act.put, List.setIfInBounds_toArray, List.set_cons_zero, List.set_cons_succ]
    refine wpAnyH_take (i := 10) (oi := ⟨some 13, _, _, _, _, _⟩) (v := ?_) rfl (by kernel_rfl) (by kernel_rfl) (by kernel_rfl) (fun _ _ _ h => h) (Or.inl ⟨by rfl, ?_⟩) (by assumption) ?_
    rotate_left
    · (intro w hSw; (try dsimp only at hSw); go_simp; (try with_reducible rfl))
    try simp only [Act.put, List.setIfInBounds_toArray, List.set_cons_zero, List.set_cons_succ]
    refine wpAnyH_take (i := 11) (oi := ⟨some 14, _, _, _, _, _⟩) (v := ?_) rfl (by kernel_rfl) (by kernel_rfl) (by kernel_rfl) (fun _ _ _ h => h) (Or.inl ⟨by rfl, ?_⟩) (by assumption) ?_
    rotate_left
    · (intro w hSw; (try dsimp only at hSw); go_simp; (try with_reducible rfl))
    try simp only [Act.put, List.setIfInBounds_toArray, List.set_cons_zero, List.set_cons_succ]
    refine wpAnyH_ready (rs := [12]) (by kernel_rfl) (by simp) ?_
    refine AllReadyH.cons (o := ⟨some 15, _, _, _, _, _⟩) rfl (fun K hK => ?_) AllReadyH.nil
    go_simp
    with_reducible refine (KA.out _ (fk_below (by assumption))).mono ?_
    rintro e w' ⟨rfl, hb⟩
    go_wp2_with fail
    refine hK.out _ _ ?_ (fun hHeld => ?_)
    · exact fk_keep (by assumption) hb
    clear hK K
    try simp only [Act.put, List.setIfInBounds_toArray, List.set_cons_zero, List.set_cons_succ]
    refine wpAnyH_take (i := 13) (oi := ⟨some 16, _, _, _, _, _⟩) (v := ?_) rfl (by kernel_rfl) (by kernel_rfl) (by kernel_rfl) (fun _ _ _ h => h) (Or.inl ⟨by rfl, ?_⟩) (by assumption) ?_
    rotate_left
    · (intro w hSw; (try dsimp only at hSw); go_simp; (try with_reducible rfl))
    try simp only [Act.put, List.setIfInBounds_toArray, List.set_cons_zero, List.set_cons_succ]
    refine wpAnyH_take (i := 14) (oi := ⟨some 2, _, _, _, _, _⟩) (v := ?_) rfl (by kernel_rfl) (by kernel_rfl) (by kernel_rfl) (fun _ _ _ h => h) (Or.inl ⟨by rfl, ?_⟩) (by assumption) ?_
    rotate_left
    · (intro w hSw; (try dsimp only at hSw); go_simp; (try with_reducible rfl))
    try simp only [Act.put, List.setIfInBounds_toArray, List.set_cons_zero, List.set_cons_succ]
    refine wpAnyH_done (by kernel_rfl) ?_ _
    have HF := Lib.hid (fk_below hHeld)
    clear hHeld
    go_wp2_with fail
    go_ret
    exact ⟨rfl, HF.out⟩
  · have hsm := Ck.small_of hq (by decide)
    have hfit := Tr.fitP_of hq (by decide)
    rw [hq] at KF1
    have KC : Hid (∀ W, Below w.heap.size w W → Calls Tryz.prog 12 #[.agg #[.slice pv CN cpv]] W (CheckPost cs W)) := fun W hb => check_any _ cs W (HE.out.keep hb) (HS.out.keep hb) hsm hfit
    have KQ : Hid (∀ W, Below w.heap.size w W → Calls Tryz.prog 13 #[.agg #[.slice pv CN cpv]] W (CheckPost cs W)) := fun W hb => checkR_any _ cs W (HS.out.keep hb) hsm
    have KS : Hid (∀ W va vb, RdI W va (Ck.check cs) → RdI W vb (Ck.check cs) → Calls Tryz.prog 11 #[va, vb] W fun e w' => e = .returned (.bool true) ∧ Below W.heap.size W w') := fun W va vb h1 h2 => by have := sameErr_any va vb _ _ W h1 h2; rw [decide_eq_true rfl] at this; exact this
    clear hq hsm hfit
    go_enter Tryz.func3, Tryz.ntmps3
    go_upto_region 1 with fail
    rw [← HW1.out]
    clear HW1
    refine wp_region_held_drew (S := fun w' => w'.cell? ⟨w.heap.size, 0, none⟩ = some (.slice pv CN cpv) ∧ Hid (Below w.heap.size w w')) (by kernel_rfl) ?_ (fun hHeld => ?_)
    · exact ⟨c0, Lib.hid HB1.out.drew⟩
    refine wpAnyH_take (i := 0) (oi := ⟨some 3, _, _, _, _, _⟩) (v := ?_) rfl (by kernel_rfl) (by kernel_rfl) (by kernel_rfl) (fun _ _ _ h => h) (Or.inl ⟨by rfl, ?_⟩) (by assumption) ?_
    rotate_left
    · (intro w hSw; (try dsimp only at hSw); go_simp; (try with_reducible rfl))
    try simp only [Act.put, List.setIfInBounds_toArray, List.set_cons_zero, List.set_cons_succ]
    refine wpAnyH_ready (rs := [1]) (by kernel_rfl) (by simp) ?_
    refine AllReadyH.cons (o := ⟨some 4, _, _, _, _, _⟩) rfl (fun K hK => ?_) AllReadyH.nil
    go_simp
    refine hK.out _ _ ?_ (fun hHeld => ?_)
    · exact fk_keep hHeld (below_box _ _)
    clear hK K
    try simp only [Act.put, List.setIfInBounds_toArray, List.set_cons_zero, List.set_cons_succ]
    refine wpAnyH_ready (rs := [2]) (by kernel_rfl) (by simp) ?_
    refine AllReadyH.cons (o := ⟨some 5, _, _, _, _, _⟩) rfl (fun K hK => ?_) AllReadyH.nil
    go_simp
    with_reducible refine KF1.out.mono ?_
    rintro e w' ⟨rfl, hb⟩
    go_wp2_with fail
    refine hK.out _ _ ?_ (fun hHeld => ?_)
    · exact fk_keep (by assumption) hb
    clear hK K
    try simp only [Act.put, List.setIfInBounds_toArray, List.set_cons_zero, List.set_cons_succ]
    refine wpAnyH_take (i := 3) (oi := ⟨some 6, _, _, _, _, _⟩) (v := ?_) rfl (by kernel_rfl) (by kernel_rfl) (by kernel_rfl) (fun _ _ _ h => h) (Or.inl ⟨by rfl, ?_⟩) (by assumption) ?_
    rotate_left
    · (intro w hSw; (try dsimp only at hSw); go_simp; (try with_reducible rfl))
    try simp only [Act.put, List.setIfInBounds_toArray, List.set_cons_zero, List.set_cons_succ]
    refine wpAnyH_take (i := 4) (oi := ⟨some 7, _, _, _, _, _⟩) (v := ?_) rfl (by kernel_rfl) (by kernel_rfl) (by kernel_rfl) (fun _ _ _ h => h) (Or.inl ⟨by rfl, ?_⟩) (by assumption) ?_
    rotate_left
    · (intro w hSw; (try dsimp only at hSw); go_simp; (try with_reducible rfl))
    try simp only [Act.put, List.setIfInBounds_toArray, List.set_cons_zero, List.set_cons_succ]
    refine wpAnyH_take (i := 5) (oi := ⟨some 8, _, _, _, _, _⟩) (v := ?_) rfl (by kernel_rfl) (by kernel_rfl) (by kernel_rfl) (fun _ _ _ h => h) (Or.inl ⟨by rfl, ?_⟩) (by assumption) ?_
    rotate_left
    · (intro w hSw; (try dsimp only at hSw); go_simp; (try with_reducible rfl))
    try simp only [Act.put, List.setIfInBounds_toArray, List.set_cons_zero, List.set_cons_succ]
    refine wpAnyH_take (i := 7) (oi := ⟨some 10, _, _, _, _, _⟩) (v := ?_) rfl (by kernel_rfl) (by kernel_rfl) (by kernel_rfl) (fun _ _ _ h => h) (Or.inl ⟨by rfl, ?_⟩) (by assumption) ?_
    rotate_left
    · (intro w hSw; (try dsimp only at hSw); go_simp; (try with_reducible rfl))
    try simp only [Act.put, List.setIfInBounds_toArray, List.set_cons_zero, List.set_cons_succ]
    refine wpAnyH_ready (rs := [6]) (by kernel_rfl) (by simp) ?_
    refine AllReadyH.cons (o := ⟨some 9, _, _, _, _, _⟩) rfl (fun K hK => ?_) AllReadyH.nil
    go_simp
    with_reducible refine (KC.out _ (fk_below (by assumption))).mono ?_
    rintro e w' ⟨lv, rfl, ho, hb⟩
    have hr1 := rdI_own ho
    clear ho
    go_wp2_with fail
    refine hK.out _ _ ?_ (fun hHeld => ?_)
    · exact fk_keep (by assumption) hb
    clear hK K
    try simp only [Act.put, List.setIfInBounds_toArray, List.set_cons_zero, List.set_cons_succ]
    refine wpAnyH_ready (rs := [8]) (by kernel_rfl) (by simp) ?_
    refine AllReadyH.cons (o := ⟨some 11, _, _, _, _, _⟩) rfl (fun K hK => ?_) AllReadyH.nil
    go_simp
    with_reducible refine (KQ.out _ (fk_below (by assumption))).mono ?_
    rintro e w' ⟨rv, rfl, ho, hb⟩
    have hr2 := rdI_own ho
    clear ho
    have hr1 := hr1.keep hb
    go_wp2_with fail
    refine hK.out _ _ ?_ (fun hHeld => ?_)
    · exact fk_keep (by assumption) hb
    clear hK K
    try simp only [Act.put, List.setIfInBounds_toArray, List.set_cons_zero, List.set_cons_succ]
    refine wpAnyH_ready (rs := [9]) (by kernel_rfl) (by simp) ?_
    refine AllReadyH.cons (o := ⟨some 12, _, _, _, _, _⟩) rfl (fun K hK => ?_) AllReadyH.nil
    go_simp
    with_reducible refine (KS.out _ _ _ hr1 hr2).mono ?_
    rintro e w' ⟨rfl, hb⟩
    go_wp2_with fail
    refine hK.out _ _ ?_ (fun hHeld => ?_)
    · exact fk_keep (by assumption) hb
    clear hK K
    try simp only [Act.put, List.setIfInBounds_toArray, List.set_cons_zero, List.set_cons_succ]
    refine wpAnyH_take (i := 10) (oi := ⟨some 13, _, _, _, _, _⟩) (v := ?_) rfl (by kernel_rfl) (by kernel_rfl) (by kernel_rfl) (fun _ _ _ h => h) (Or.inl ⟨by rfl, ?_⟩) (by assumption) ?_
    rotate_left
    · (intro w hSw; (try dsimp only at hSw); go_simp; (try with_reducible rfl))
    try simp only [Act.put, List.setIfInBounds_toArray, List.set_cons_zero, List.set_cons_succ]
    refine wpAnyH_take (i := 11) (oi := ⟨some 14, _, _, _, _, _⟩) (v := ?_) rfl (by kernel_rfl) (by kernel_rfl) (by kernel_rfl) (fun _ _ _ h => h) (Or.inl ⟨by rfl, ?_⟩) (by assumption) ?_
    rotate_left
    · (intro w hSw; (try dsimp only at hSw); go_simp; (try with_reducible rfl))
    try simp only [Act.put, List.setIfInBounds_toArray, List.set_cons_zero, List.set_cons_succ]
    refine wpAnyH_ready (rs := [12]) (by kernel_rfl) (by simp) ?_
    refine AllReadyH.cons (o := ⟨some 15, _, _, _, _, _⟩) rfl (fun K hK => ?_) AllReadyH.nil
    go_simp
    with_reducible refine (KA.out _ (fk_below (by assumption))).mono ?_
    rintro e w' ⟨rfl, hb⟩
    go_wp2_with fail
    refine hK.out _ _ ?_ (fun hHeld => ?_)
    · exact fk_keep (by assumption) hb
    clear hK K
    try simp only [Act.put, List.setIfInBounds_toArray, List.set_cons_zero, List.set_cons_succ]
    refine wpAnyH_take (i := 13) (oi := ⟨some 16, _, _, _, _, _⟩) (v := ?_) rfl (by kernel_rfl) (by kernel_rfl) (by kernel_rfl) (fun _ _ _ h => h) (Or.inl ⟨by rfl, ?_⟩) (by assumption) ?_
    rotate_left
    · (intro w hSw; (try dsimp only at hSw); go_simp; (try with_reducible rfl))
    try simp only [Act.put, List.setIfInBounds_toArray, List.set_cons_zero, List.set_cons_succ]
    refine wpAnyH_take (i := 14) (oi := ⟨some 2, _, _, _, _, _⟩) (v := ?_) rfl (by kernel_rfl) (by kernel_rfl) (by kernel_rfl) (fun _ _ _ h => h) (Or.inl ⟨by rfl, ?_⟩) (by assumption) ?_
    rotate_left
    · (intro w hSw; (try dsimp only at hSw); go_simp; (try with_reducible rfl))
    try simp only [Act.put, List.setIfInBounds_toArray, List.set_cons_zero, List.set_cons_succ]
    refine wpAnyH_done (by kernel_rfl) ?_ _
    have HF := Lib.hid (fk_below hHeld)
    clear hHeld
    go_wp2_with fail
    go_ret
    exact ⟨rfl, HF.out⟩
end Go.Proofs.YtdafdbjdnebnfaaGreatDoor
