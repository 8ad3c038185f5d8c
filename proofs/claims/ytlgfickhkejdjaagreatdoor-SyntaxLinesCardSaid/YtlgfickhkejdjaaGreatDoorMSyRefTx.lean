/-
  The reference's text of an expression, walked.
-/
import Derived.Test.YtlgfickhkejdjaaGreatDoorMSyJ
import Derived.Test.YtlgfickhkejdjaaGreatDoorMSyArg
import Derived.Test.YtlgfickhkejdjaaGreatDoorMTrValR
namespace Go.Proofs.YtlgfickhkejdjaaGreatDoor
open Go.RowKit Go.Maps
namespace Sy
theorem par_long (r : Nat) (x : Nat × Bytes) : x.2.length ≤ (par r x).length := by
  unfold par
  split
  · simp only [List.length_append]; omega
  · omega
end Sy
theorem nite_le {c : Prop} [Decidable c] {a b n : Nat} (h1 : a ≤ n) (h2 : b ≤ n) : (if c then a else b) ≤ n := by
  split <;> assumption
theorem opLevel_le (o : Int) : Sy.opLevel o ≤ 6 := by
  unfold Sy.opLevel
  repeat' refine nite_le ?_ ?_
  all_goals decide
theorem mk_nm (s : ByteArray) : (⟨s.data.toList.toArray⟩ : ByteArray) = s := by
  apply bytes_eq
  rfl

set_option maxRecDepth 100000 in
set_option maxHeartbeats 20000000 in
theorem refText_any : ∀ d, RtC d := by
  intro d
  induction d with
  | zero => intro e p N c W hd; have := e.deep_pos; omega
  | succ d ih =>
    intro e p N c w hd hv hN hS hl
    obtain ⟨k, o, i, nm, a1, ls⟩ := e
    simp only [Tr.E.args] at hN hS
    rw [Tr.validE, Bool.and_eq_true, Tr.validEs_all, List.all_eq_true, hN] at hv
    obtain ⟨hvs, hok⟩ := hv
    have hf := okE_forms hok
    have hds : ∀ x ∈ ls, x.deep ≤ d := fun x hm => by
      obtain ⟨j, hj⟩ := List.getElem?_of_mem hm
      exact Tr.E.deep_args hd (e := .mk k o i nm a1 ls) hj
    rw [Sy.text_mk] at hl ⊢
    have hcap : N ≠ 0 → N ≤ c := fun h0 => by
      obtain ⟨q1, c1, e1, h1⟩ := hS.form
      injection e1 with _ e2 e3
      have := (h1 (by rintro rfl; simp at hN; omega)).1
      omega
    have hbx := below_box w (.cells #[.int .i64 k, .int .i64 o, .int .i64 i, .string nm, .bool a1, .slice p N c] 24)
    have hcv := (MapKept.heap_alloc w (.cells #[.int .i64 k, .int .i64 o, .int .i64 i, .string nm, .bool a1, .slice p N c] 24)).1
    obtain ⟨w1, hw1⟩ : ∃ q, q = w.alloc (.cells #[.int .i64 k, .int .i64 o, .int .i64 i, .string nm, .bool a1, .slice p N c] 24) := ⟨_, rfl⟩
    rw [← hw1] at hbx hcv
    have HW1 := Lib.hid hw1
    have HB1 := Lib.hid hbx
    have HC1 := Lib.hid hcv
    have HS := Lib.hid hS
    have HV := Lib.hid hvs
    have HD := Lib.hid hds
    have HN := Lib.hid hN
    have HCAP := Lib.hid hcap
    unfold exprV
    simp only [Tr.E.kind, Tr.E.op, Tr.E.int, Tr.E.name, Tr.E.at_]
    clear hw1 hbx hcv hS hvs hds hN hd hok hcap
    rcases hf with ⟨rfl, rfl, hi0, hi1⟩ | ⟨rfl, rfl⟩ | ⟨rfl, rfl⟩ | ⟨rfl, rfl⟩ | ⟨rfl, rfl⟩ | ⟨rfl, ha⟩ | ⟨rfl, rfl⟩ | ⟨rfl, rfl⟩ | ⟨rfl, rfl⟩ | ⟨rfl, rfl⟩ | ⟨rfl, rfl, ho0, ho1⟩
    · show Calls _ _ _ _ (fun r w' => r = .returned (.string ⟨(dec i.toNat).toArray⟩) ∧ _)
      have KD := Lib.hid (decimal_any i w1 hi0 hi1)
      obtain ⟨A, hA⟩ : ∃ A : ByteArray, ⟨(dec i.toNat).toArray⟩ = A := ⟨_, rfl⟩
      rw [hA] at KD ⊢
      clear hl hA hi0 hi1
      have z0 := cell_of_blkP HC1.out (j := 0) (u := .int .i64 0) rfl
      have z2 := cell_of_blkP HC1.out (j := 2) (u := .int .i64 i) rfl
      go_enter Tryz.func44, Tryz.ntmps44
      go_wp2_with fail
      rw [← HW1.out]
      refine KD.out.mono ?_
      rintro e' w2 ⟨rfl, hb2⟩
      have HZ := Lib.hid (below_next HB1.out hb2)
      clear hb2 z0 z2
      go_wp2_with fail
      go_ret
      exact ⟨rfl, HZ.out⟩
    · show Calls _ _ _ _ (fun r w' => r = .returned (.string ⟨([110, 105, 108]).toArray⟩) ∧ _)
      clear hl
      have z0 := cell_of_blkP HC1.out (j := 0) (u := .int .i64 1) rfl
      go_enter Tryz.func44, Tryz.ntmps44
      go_wp2_with fail
      rw [← HW1.out]
      go_ret
      exact ⟨rfl, HB1.out⟩
    · show Calls _ _ _ _ (fun r w' => r = .returned (.string ⟨([116, 104, 105, 115]).toArray⟩) ∧ _)
      clear hl
      have z0 := cell_of_blkP HC1.out (j := 0) (u := .int .i64 2) rfl
      go_enter Tryz.func44, Tryz.ntmps44
      go_wp2_with fail
      rw [← HW1.out]
      go_ret
      exact ⟨rfl, HB1.out⟩
    · show Calls _ _ _ _ (fun r w' => r = .returned (.string ⟨nm.data.toList.toArray⟩) ∧ _)
      rw [mk_nm]
      clear hl
      have z0 := cell_of_blkP HC1.out (j := 0) (u := .int .i64 3) rfl
      have z3 := cell_of_blkP HC1.out (j := 3) (u := .string nm) rfl
      go_enter Tryz.func44, Tryz.ntmps44
      go_wp2_with fail
      rw [← HW1.out]
      go_ret
      exact ⟨rfl, HB1.out⟩
    · obtain ⟨x, rfl⟩ : ∃ x, ls = [x] := by
        match ls, HN.out with
        | [x], _ => exact ⟨x, rfl⟩
      change (Sy.par 8 (Sy.level x, Sy.text x) ++ [46] ++ nm.data.toList).length ≤ _ at hl
      show Calls _ _ _ _ (fun r w' => r = .returned (.string ⟨(Sy.par 8 (Sy.level x, Sy.text x) ++ [46] ++ nm.data.toList).toArray⟩) ∧ _)
      have HL := Lib.hid hl
      clear hl
      have hnml : nm.size ≤ 1000000000 := by have hl := HL.out; have hdl := data_len nm; simp only [List.length_append, List.length_cons, List.length_nil] at hl; omega
      obtain ⟨b', o', pa, AN, ca, rfl, hAN, hc, hsl⟩ := argAt HS.out (j := 0) (x := x) rfl
      have KX : Hid (∀ W, Below w.heap.size w W → Calls Tryz.prog 80 #[exprV x (.slice pa AN ca), .int .i64 8] W fun r w' => r = .returned (.string ⟨(Sy.par 8 (Sy.level x, Sy.text x)).toArray⟩) ∧ Below W.heap.size W w') := fun W hb => refIn_of ih x pa AN ca 8 W (HD.out x (by simp)) (HV.out x (by simp)) hAN (hsl.keep hb) (by have hl := HL.out; have h2 := Sy.par_long 8 (Sy.level x, Sy.text x); simp only [List.length_append, List.length_cons, List.length_nil] at hl h2; omega)
      unfold exprV at KX
      obtain ⟨A, hA⟩ : ∃ A : ByteArray, ⟨(Sy.par 8 (Sy.level x, Sy.text x)).toArray⟩ = A := ⟨_, rfl⟩
      have hAl : A.size ≤ 1000000000 := by rw [← hA]; show (Sy.par 8 (Sy.level x, Sy.text x)).length ≤ _; have hl := HL.out; simp only [List.length_append, List.length_cons, List.length_nil] at hl; omega
      rw [hA] at KX
      have HF : Hid (A ++ ⟨#[46]⟩ ++ nm = ⟨(Sy.par 8 (Sy.level x, Sy.text x) ++ [46] ++ nm.data.toList).toArray⟩) := by show _ = _; rw [← mk_app, ← mk_app, hA, mk_nm]; try rfl
      rw [← HF.out]
      clear HF
      have k1 : ¬ 9223372036854775807 < A.size + 1 := by omega
      have k2 : ¬ 9223372036854775807 < A.size + 1 + nm.size := by omega
      obtain ⟨y0, y1, y2, y3, y4, y5⟩ := hc.keep HB1.out
      simp only [Nat.zero_mul, Nat.add_zero] at y0 y1 y2 y3 y4 y5
      have z0 := cell_of_blkP HC1.out (j := 0) (u := .int .i64 4) rfl
      have z3 := cell_of_blkP HC1.out (j := 3) (u := .string nm) rfl
      have z5 := cell_of_blkP HC1.out (j := 5) (u := .slice (some ⟨b', o', none⟩) 1 c) rfl
      have hl1 := cell_lt' z0
      have hl2 := cell_lt' y0
      clear hAN hc hsl hA hAl hnml
      go_enter Tryz.func44, Tryz.ntmps44
      go_upto_region 11 with fail
      rw [← HW1.out]
      clear HW1
      refine wp_region_held_drew (S := fun W => W.cell? ⟨w.heap.size, 3, none⟩ = some (.string nm) ∧ W.cell? ⟨w.heap.size, 5, none⟩ = some (.slice (some ⟨b', o', none⟩) 1 c) ∧ W.cell? ⟨b', o', none⟩ = some (.int .i64 x.kind) ∧ W.cell? ⟨b', o' + 1, none⟩ = some (.int .i64 x.op) ∧ W.cell? ⟨b', o' + 2, none⟩ = some (.int .i64 x.int) ∧ W.cell? ⟨b', o' + 3, none⟩ = some (.string x.name) ∧ W.cell? ⟨b', o' + 4, none⟩ = some (.bool x.at_) ∧ W.cell? ⟨b', o' + 5, none⟩ = some (.slice pa AN ca) ∧ Hid (Below w.heap.size w W)) (by kernel_rfl) ?_ (fun hHeld => ?_)
      · exact ⟨z3, z5, y0, y1, y2, y3, y4, y5, Lib.hid (HB1.out).drew⟩
      clear z0 z3 z5 y0 y1 y2 y3 y4 y5
      refine wpAnyH_take (i := 0) (oi := ⟨some 22, _, _, _, _, _⟩) (v := ?_) rfl (by kernel_rfl) (by kernel_rfl) (by kernel_rfl) (fun _ _ _ h => h) (Or.inl ⟨by rfl, ?_⟩) (by assumption) ?_
      rotate_left
      · (intro w hSw; (try dsimp only at hSw); go_simp; (try with_reducible rfl))
      try simp only [Act.put, List.setIfInBounds_toArray, List.set_cons_zero, List.set_cons_succ]
      refine wpAnyH_take (i := 1) (oi := ⟨some 23, _, _, _, _, _⟩) (v := ?_) rfl (by kernel_rfl) (by kernel_rfl) (by kernel_rfl) (fun _ _ _ h => h) (Or.inl ⟨by rfl, ?_⟩) (by assumption) ?_
      rotate_left
      · (intro w hSw; (try dsimp only at hSw); go_simp; (try with_reducible rfl))
      try simp only [Act.put, List.setIfInBounds_toArray, List.set_cons_zero, List.set_cons_succ]
      refine wpAnyH_take (i := 2) (oi := ⟨some 24, _, _, _, _, _⟩) (v := ?_) rfl (by kernel_rfl) (by kernel_rfl) (by kernel_rfl) (fun _ _ _ h => h) (Or.inl ⟨by rfl, ?_⟩) (by assumption) ?_
      rotate_left
      · (intro w hSw; (try dsimp only at hSw); go_simp; (try with_reducible rfl))
      try simp only [Act.put, List.setIfInBounds_toArray, List.set_cons_zero, List.set_cons_succ]
      refine wpAnyH_take (i := 3) (oi := ⟨some 25, _, _, _, _, _⟩) (v := ?_) rfl (by kernel_rfl) (by kernel_rfl) (by kernel_rfl) (fun _ _ _ h => h) (Or.inl ⟨by rfl, ?_⟩) (by assumption) ?_
      rotate_left
      · (intro w hSw; (try dsimp only at hSw); go_simp; (try with_reducible rfl))
      try simp only [Act.put, List.setIfInBounds_toArray, List.set_cons_zero, List.set_cons_succ]
      refine wpAnyH_take (i := 6) (oi := ⟨some 28, _, _, _, _, _⟩) (v := ?_) rfl (by kernel_rfl) (by kernel_rfl) (by kernel_rfl) (fun _ _ _ h => h) (Or.inl ⟨by rfl, ?_⟩) (by assumption) ?_
      rotate_left
      · (intro w hSw; (try dsimp only at hSw); go_simp; (try with_reducible rfl))
      try simp only [Act.put, List.setIfInBounds_toArray, List.set_cons_zero, List.set_cons_succ]
      refine wpAnyH_take (i := 7) (oi := ⟨some 29, _, _, _, _, _⟩) (v := ?_) rfl (by kernel_rfl) (by kernel_rfl) (by kernel_rfl) (fun _ _ _ h => h) (Or.inl ⟨by rfl, ?_⟩) (by assumption) ?_
      rotate_left
      · (intro w hSw; (try dsimp only at hSw); go_simp; (try with_reducible rfl))
      try simp only [Act.put, List.setIfInBounds_toArray, List.set_cons_zero, List.set_cons_succ]
      refine wpAnyH_ready (rs := [4]) (by kernel_rfl) (by simp) ?_
      refine AllReadyH.cons (o := ⟨some 26, _, _, _, _, _⟩) rfl (fun K hK => ?_) AllReadyH.nil
      go_simp
      with_reducible refine (KX.out _ hHeld.2.2.2.2.2.2.2.2.out).mono ?_
      rintro e w' ⟨rfl, hb⟩
      go_wp2_with fail
      refine hK.out _ _ ?_ (fun hHeld => ?_)
      · exact ⟨cell_keep' hb hHeld.1, cell_keep' hb hHeld.2.1, cell_keep' hb hHeld.2.2.1, cell_keep' hb hHeld.2.2.2.1, cell_keep' hb hHeld.2.2.2.2.1, cell_keep' hb hHeld.2.2.2.2.2.1, cell_keep' hb hHeld.2.2.2.2.2.2.1, cell_keep' hb hHeld.2.2.2.2.2.2.2.1, Lib.hid (below_next hHeld.2.2.2.2.2.2.2.2.out hb)⟩
      clear hK K
      try simp only [Act.put, List.setIfInBounds_toArray, List.set_cons_zero, List.set_cons_succ]
      clear hb
      refine wpAnyH_take (i := 5) (oi := ⟨some 27, _, _, _, _, _⟩) (v := ?_) rfl (by kernel_rfl) (by kernel_rfl) (by kernel_rfl) (fun _ _ _ h => h) (Or.inl ⟨by rfl, ?_⟩) (by assumption) ?_
      rotate_left
      · (intro w hSw; (try dsimp only at hSw); go_simp; (try with_reducible rfl))
      try simp only [Act.put, List.setIfInBounds_toArray, List.set_cons_zero, List.set_cons_succ]
      refine wpAnyH_take (i := 8) (oi := ⟨some 30, _, _, _, _, _⟩) (v := ?_) rfl (by kernel_rfl) (by kernel_rfl) (by kernel_rfl) (fun _ _ _ h => h) (Or.inl ⟨by rfl, ?_⟩) (by assumption) ?_
      rotate_left
      · (intro w hSw; (try dsimp only at hSw); go_simp; (try with_reducible rfl))
      try simp only [Act.put, List.setIfInBounds_toArray, List.set_cons_zero, List.set_cons_succ]
      refine wpAnyH_take (i := 9) (oi := ⟨some 2, _, _, _, _, _⟩) (v := ?_) rfl (by kernel_rfl) (by kernel_rfl) (by kernel_rfl) (fun _ _ _ h => h) (Or.inl ⟨by rfl, ?_⟩) (by assumption) ?_
      rotate_left
      · (intro w hSw; (try dsimp only at hSw); go_simp; (try with_reducible rfl))
      try simp only [Act.put, List.setIfInBounds_toArray, List.set_cons_zero, List.set_cons_succ]
      refine wpAnyH_done (by kernel_rfl) ?_ _
      have HZ := Lib.hid hHeld.2.2.2.2.2.2.2.2.out
      clear hHeld
      go_wp2_with fail
      go_ret
      exact ⟨rfl, HZ.out⟩
    · cases a1
      · have hms : ((ls.map fun e => (Sy.level e, Sy.text e)).map Prod.snd) = ls.map Sy.text := by rw [List.map_map]; rfl
        change ([110, 101, 119, 32] ++ nm.data.toList ++ [40] ++ Sy.commas ((ls.map fun e => (Sy.level e, Sy.text e)).map Prod.snd) ++ [41]).length ≤ _ at hl
        rw [hms] at hl
        show Calls _ _ _ _ (fun r w' => r = .returned (.string ⟨([110, 101, 119, 32] ++ nm.data.toList ++ [40] ++ Sy.commas ((ls.map fun e => (Sy.level e, Sy.text e)).map Prod.snd) ++ [41]).toArray⟩) ∧ _)
        rw [hms]
        clear hms
        have HL := Lib.hid hl
        have hnml : nm.size ≤ 1000000000 := by have hl := HL.out; have hdl := data_len nm; simp only [List.length_append, List.length_cons, List.length_nil] at hl; omega
        simp only [List.length_append, List.length_cons, List.length_nil] at hl
        have KX : Hid (∀ W, Below w.heap.size w W → Calls Tryz.prog 81 #[.slice p N c] W fun r w' => r = .returned (.string ⟨(Sy.commas (ls.map Sy.text)).toArray⟩) ∧ Below W.heap.size W w') := fun W hb => refList_of ih ls p N c W HD.out HV.out HN.out (HS.out.keep hb) (by omega)
        obtain ⟨A, hA⟩ : ∃ A : ByteArray, ⟨(Sy.commas (ls.map Sy.text)).toArray⟩ = A := ⟨_, rfl⟩
        have hAl : A.size ≤ 1000000000 := by rw [← hA]; show (Sy.commas (ls.map Sy.text)).length ≤ _; omega
        rw [hA] at KX
        have HF : Hid (⟨#[110, 101, 119, 32]⟩ ++ nm ++ ⟨#[40]⟩ ++ A ++ ⟨#[41]⟩ = ⟨([110, 101, 119, 32] ++ nm.data.toList ++ [40] ++ Sy.commas (ls.map Sy.text) ++ [41]).toArray⟩) := by show _ = _; rw [← mk_app, ← mk_app, ← mk_app, ← mk_app, hA, mk_nm]; try rfl
        rw [← HF.out]
        clear HF
        have k1 : ¬ 9223372036854775807 < 4 + nm.size := by omega
        have k2 : ¬ 9223372036854775807 < 4 + nm.size + 1 := by omega
        have k3 : ¬ 9223372036854775807 < 4 + nm.size + 1 + A.size := by omega
        have k4 : ¬ 9223372036854775807 < 4 + nm.size + 1 + A.size + 1 := by omega
        have z0 := cell_of_blkP HC1.out (j := 0) (u := .int .i64 5) rfl
        have z3 := cell_of_blkP HC1.out (j := 3) (u := .string nm) rfl
        have z4 := cell_of_blkP HC1.out (j := 4) (u := .bool false) rfl
        have z5 := cell_of_blkP HC1.out (j := 5) (u := .slice p N c) rfl
        have hl1 := cell_lt' z0
        clear hl hA hAl hnml ha
        go_enter Tryz.func44, Tryz.ntmps44
        go_upto_region 16 with fail
        rw [← HW1.out]
        clear HW1
        refine wp_region_held_drew (S := fun W => W.cell? ⟨w.heap.size, 3, none⟩ = some (.string nm) ∧ W.cell? ⟨w.heap.size, 5, none⟩ = some (.slice p N c) ∧ Hid (Below w.heap.size w W)) (by kernel_rfl) ?_ (fun hHeld => ?_)
        · exact ⟨z3, z5, Lib.hid (HB1.out).drew⟩
        clear z0 z3 z4 z5
        refine wpAnyH_take (i := 0) (oi := ⟨some 57, _, _, _, _, _⟩) (v := ?_) rfl (by kernel_rfl) (by kernel_rfl) (by kernel_rfl) (fun _ _ _ h => h) (Or.inl ⟨by rfl, ?_⟩) (by assumption) ?_
        rotate_left
        · (intro w hSw; (try dsimp only at hSw); go_simp; (try with_reducible rfl))
        try simp only [Act.put, List.setIfInBounds_toArray, List.set_cons_zero, List.set_cons_succ]
        refine wpAnyH_take (i := 1) (oi := ⟨some 58, _, _, _, _, _⟩) (v := ?_) rfl (by kernel_rfl) (by kernel_rfl) (by kernel_rfl) (fun _ _ _ h => h) (Or.inl ⟨by rfl, ?_⟩) (by assumption) ?_
        rotate_left
        · (intro w hSw; (try dsimp only at hSw); go_simp; (try with_reducible rfl))
        try simp only [Act.put, List.setIfInBounds_toArray, List.set_cons_zero, List.set_cons_succ]
        refine wpAnyH_take (i := 2) (oi := ⟨some 59, _, _, _, _, _⟩) (v := ?_) rfl (by kernel_rfl) (by kernel_rfl) (by kernel_rfl) (fun _ _ _ h => h) (Or.inl ⟨by rfl, ?_⟩) (by assumption) ?_
        rotate_left
        · (intro w hSw; (try dsimp only at hSw); go_simp; (try with_reducible rfl))
        try simp only [Act.put, List.setIfInBounds_toArray, List.set_cons_zero, List.set_cons_succ]
        refine wpAnyH_take (i := 3) (oi := ⟨some 60, _, _, _, _, _⟩) (v := ?_) rfl (by kernel_rfl) (by kernel_rfl) (by kernel_rfl) (fun _ _ _ h => h) (Or.inl ⟨by rfl, ?_⟩) (by assumption) ?_
        rotate_left
        · (intro w hSw; (try dsimp only at hSw); go_simp; (try with_reducible rfl))
        try simp only [Act.put, List.setIfInBounds_toArray, List.set_cons_zero, List.set_cons_succ]
        refine wpAnyH_take (i := 4) (oi := ⟨some 61, _, _, _, _, _⟩) (v := ?_) rfl (by kernel_rfl) (by kernel_rfl) (by kernel_rfl) (fun _ _ _ h => h) (Or.inl ⟨by rfl, ?_⟩) (by assumption) ?_
        rotate_left
        · (intro w hSw; (try dsimp only at hSw); go_simp; (try with_reducible rfl))
        try simp only [Act.put, List.setIfInBounds_toArray, List.set_cons_zero, List.set_cons_succ]
        refine wpAnyH_take (i := 5) (oi := ⟨some 62, _, _, _, _, _⟩) (v := ?_) rfl (by kernel_rfl) (by kernel_rfl) (by kernel_rfl) (fun _ _ _ h => h) (Or.inl ⟨by rfl, ?_⟩) (by assumption) ?_
        rotate_left
        · (intro w hSw; (try dsimp only at hSw); go_simp; (try with_reducible rfl))
        try simp only [Act.put, List.setIfInBounds_toArray, List.set_cons_zero, List.set_cons_succ]
        refine wpAnyH_ready (rs := [6]) (by kernel_rfl) (by simp) ?_
        refine AllReadyH.cons (o := ⟨some 63, _, _, _, _, _⟩) rfl (fun K hK => ?_) AllReadyH.nil
        go_simp
        with_reducible refine (KX.out _ hHeld.2.2.out).mono ?_
        rintro e w' ⟨rfl, hb⟩
        go_wp2_with fail
        refine hK.out _ _ ?_ (fun hHeld => ?_)
        · exact ⟨cell_keep' hb hHeld.1, cell_keep' hb hHeld.2.1, Lib.hid (below_next hHeld.2.2.out hb)⟩
        clear hK K
        try simp only [Act.put, List.setIfInBounds_toArray, List.set_cons_zero, List.set_cons_succ]
        clear hb
        refine wpAnyH_take (i := 7) (oi := ⟨some 64, _, _, _, _, _⟩) (v := ?_) rfl (by kernel_rfl) (by kernel_rfl) (by kernel_rfl) (fun _ _ _ h => h) (Or.inl ⟨by rfl, ?_⟩) (by assumption) ?_
        rotate_left
        · (intro w hSw; (try dsimp only at hSw); go_simp; (try with_reducible rfl))
        try simp only [Act.put, List.setIfInBounds_toArray, List.set_cons_zero, List.set_cons_succ]
        refine wpAnyH_take (i := 8) (oi := ⟨some 65, _, _, _, _, _⟩) (v := ?_) rfl (by kernel_rfl) (by kernel_rfl) (by kernel_rfl) (fun _ _ _ h => h) (Or.inl ⟨by rfl, ?_⟩) (by assumption) ?_
        rotate_left
        · (intro w hSw; (try dsimp only at hSw); go_simp; (try with_reducible rfl))
        try simp only [Act.put, List.setIfInBounds_toArray, List.set_cons_zero, List.set_cons_succ]
        refine wpAnyH_take (i := 9) (oi := ⟨some 2, _, _, _, _, _⟩) (v := ?_) rfl (by kernel_rfl) (by kernel_rfl) (by kernel_rfl) (fun _ _ _ h => h) (Or.inl ⟨by rfl, ?_⟩) (by assumption) ?_
        rotate_left
        · (intro w hSw; (try dsimp only at hSw); go_simp; (try with_reducible rfl))
        try simp only [Act.put, List.setIfInBounds_toArray, List.set_cons_zero, List.set_cons_succ]
        refine wpAnyH_done (by kernel_rfl) ?_ _
        have HZ := Lib.hid hHeld.2.2.out
        clear hHeld
        go_wp2_with fail
        go_ret
        exact ⟨rfl, HZ.out⟩
      · have hn0 := ha rfl
        obtain ⟨M, rfl⟩ : ∃ M, N = M + 1 := ⟨N - 1, by omega⟩
        obtain ⟨x, hx⟩ : ∃ x, ls[M]? = some x := ⟨_, List.getElem?_eq_getElem (by rw [HN.out]; omega)⟩
        have hlp := last_parts (fun e => (Sy.level e, Sy.text e)) Sy.text (fun _ => rfl) ls M HN.out x hx (9, [])
        rw [Sy.node, if_neg (by decide), if_neg (by decide), if_neg (by decide), if_neg (by decide), if_neg (by decide), if_pos rfl, if_pos rfl, hlp.1, hlp.2] at hl
        rw [Sy.node, if_neg (by decide), if_neg (by decide), if_neg (by decide), if_neg (by decide), if_neg (by decide), if_pos rfl, if_pos rfl, hlp.1, hlp.2]
        have HL := Lib.hid hl
        have hnml : nm.size ≤ 1000000000 := by have hl := HL.out; have hdl := data_len nm; simp only [List.length_append, List.length_cons, List.length_nil] at hl; omega
        simp only [List.length_append, List.length_cons, List.length_nil] at hl
        obtain ⟨b', o', pa, AN, ca, rfl, hAN, hc, hsl⟩ := argAt HS.out hx
        have hm := List.mem_of_getElem? hx
        have hpg := Sy.par_long 7 (Sy.level x, Sy.text x)
        simp only [] at hpg
        have hts := HS.out.take M (by rw [HN.out]; omega)
        have htn : (ls.take M).length = M := by rw [List.length_take, HN.out]; omega
        have KX : Hid (∀ W, Below w.heap.size w W → Calls Tryz.prog 81 #[.slice (some ⟨b', o', none⟩) M c] W fun r w' => r = .returned (.string ⟨(Sy.commas ((ls.take M).map Sy.text)).toArray⟩) ∧ Below W.heap.size W w') := fun W hb => refList_of ih (ls.take M) _ M c W (fun y hy => HD.out y (List.mem_of_mem_take hy)) (fun y hy => HV.out y (List.mem_of_mem_take hy)) htn (hts.keep hb) (by omega)
        have KY : Hid (∀ W, Below w.heap.size w W → Calls Tryz.prog 80 #[exprV x (.slice pa AN ca), .int .i64 7] W fun r w' => r = .returned (.string ⟨(Sy.par 7 (Sy.level x, Sy.text x)).toArray⟩) ∧ Below W.heap.size W w') := fun W hb => refIn_of ih x pa AN ca 7 W (HD.out x hm) (HV.out x hm) hAN (hsl.keep hb) (by omega)
        unfold exprV at KY
        obtain ⟨A, hA⟩ : ∃ A : ByteArray, ⟨(Sy.commas ((ls.take M).map Sy.text)).toArray⟩ = A := ⟨_, rfl⟩
        obtain ⟨C, hC⟩ : ∃ A : ByteArray, ⟨(Sy.par 7 (Sy.level x, Sy.text x)).toArray⟩ = A := ⟨_, rfl⟩
        have hAl : A.size ≤ 1000000000 := by rw [← hA]; show (Sy.commas ((ls.take M).map Sy.text)).length ≤ _; omega
        have hCl : C.size ≤ 1000000000 := by rw [← hC]; show (Sy.par 7 (Sy.level x, Sy.text x)).length ≤ _; omega
        rw [hA] at KX
        rw [hC] at KY
        have HF : Hid (⟨#[110, 101, 119, 32]⟩ ++ nm ++ ⟨#[40]⟩ ++ A ++ ⟨#[41, 32, 97, 116, 32]⟩ ++ C = ⟨([110, 101, 119, 32] ++ nm.data.toList ++ [40] ++ Sy.commas ((ls.take M).map Sy.text) ++ [41, 32, 97, 116, 32] ++ Sy.par 7 (Sy.level x, Sy.text x)).toArray⟩) := by show _ = _; rw [← mk_app, ← mk_app, ← mk_app, ← mk_app, ← mk_app, hA, hC, mk_nm]; try rfl
        rw [← HF.out]
        clear HF
        have k1 : ¬ 9223372036854775807 < 4 + nm.size := by omega
        have k2 : ¬ 9223372036854775807 < 4 + nm.size + 1 := by omega
        have k3 : ¬ 9223372036854775807 < 4 + nm.size + 1 + A.size := by omega
        have k4 : ¬ 9223372036854775807 < 4 + nm.size + 1 + A.size + 5 := by omega
        have k5 : ¬ 9223372036854775807 < 4 + nm.size + 1 + A.size + 5 + C.size := by omega
        have hmc : M + 1 ≤ c := HCAP.out (by omega)
        have hml : M + 1 ≤ 9223372036854775807 := by have := HS.out.len; rw [HN.out] at this; unfold maxLen at this; exact this
        have bw : IntKind.i64.wrap (((M : Int) + 1) - 1) = (M : Int) := by rw [show ((M : Int) + 1) - 1 = (M : Int) by omega]; exact IntWalk.i64_in _ (by omega)
        have bm : M ≤ c := by omega
        have b3 : (M : Int) < (M : Int) + 1 := by omega
        have b5 : (0 : Int) ≤ (M : Int) := by omega
        obtain ⟨y0, y1, y2, y3, y4, y5⟩ := hc.keep HB1.out
        have z0 := cell_of_blkP HC1.out (j := 0) (u := .int .i64 5) rfl
        have z3 := cell_of_blkP HC1.out (j := 3) (u := .string nm) rfl
        have z4 := cell_of_blkP HC1.out (j := 4) (u := .bool true) rfl
        have z5 := cell_of_blkP HC1.out (j := 5) (u := .slice (some ⟨b', o', none⟩) (M + 1) c) rfl
        have hl1 := cell_lt' z0
        have hl2 := cell_lt' y0
        clear hl hlp hx hAN hc hsl hm hpg hts htn hA hC hAl hCl hnml ha hn0
        go_enter Tryz.func44, Tryz.ntmps44
        go_upto_region 15 with fail
        rw [← HW1.out]
        clear HW1
        refine wp_region_held_drew (S := fun W => W.cell? ⟨w.heap.size, 3, none⟩ = some (.string nm) ∧ W.cell? ⟨w.heap.size, 5, none⟩ = some (.slice (some ⟨b', o', none⟩) (M + 1) c) ∧ W.cell? ⟨b', o' + M * 6, none⟩ = some (.int .i64 x.kind) ∧ W.cell? ⟨b', o' + M * 6 + 1, none⟩ = some (.int .i64 x.op) ∧ W.cell? ⟨b', o' + M * 6 + 2, none⟩ = some (.int .i64 x.int) ∧ W.cell? ⟨b', o' + M * 6 + 3, none⟩ = some (.string x.name) ∧ W.cell? ⟨b', o' + M * 6 + 4, none⟩ = some (.bool x.at_) ∧ W.cell? ⟨b', o' + M * 6 + 5, none⟩ = some (.slice pa AN ca) ∧ Hid (Below w.heap.size w W)) (by kernel_rfl) ?_ (fun hHeld => ?_)
        · exact ⟨z3, z5, y0, y1, y2, y3, y4, y5, Lib.hid (HB1.out).drew⟩
        clear z0 z3 z4 z5 y0 y1 y2 y3 y4 y5
        refine wpAnyH_take (i := 0) (oi := ⟨some 39, _, _, _, _, _⟩) (v := ?_) rfl (by kernel_rfl) (by kernel_rfl) (by kernel_rfl) (fun _ _ _ h => h) (Or.inl ⟨by rfl, ?_⟩) (by assumption) ?_
        rotate_left
        · (intro w hSw; (try dsimp only at hSw); go_simp; (try with_reducible rfl))
        try simp only [Act.put, List.setIfInBounds_toArray, List.set_cons_zero, List.set_cons_succ]
        refine wpAnyH_take (i := 1) (oi := ⟨some 40, _, _, _, _, _⟩) (v := ?_) rfl (by kernel_rfl) (by kernel_rfl) (by kernel_rfl) (fun _ _ _ h => h) (Or.inl ⟨by rfl, ?_⟩) (by assumption) ?_
        rotate_left
        · (intro w hSw; (try dsimp only at hSw); go_simp; (try with_reducible rfl))
        try simp only [Act.put, List.setIfInBounds_toArray, List.set_cons_zero, List.set_cons_succ]
        refine wpAnyH_take (i := 2) (oi := ⟨some 41, _, _, _, _, _⟩) (v := ?_) rfl (by kernel_rfl) (by kernel_rfl) (by kernel_rfl) (fun _ _ _ h => h) (Or.inl ⟨by rfl, ?_⟩) (by assumption) ?_
        rotate_left
        · (intro w hSw; (try dsimp only at hSw); go_simp; (try with_reducible rfl))
        try simp only [Act.put, List.setIfInBounds_toArray, List.set_cons_zero, List.set_cons_succ]
        refine wpAnyH_take (i := 3) (oi := ⟨some 42, _, _, _, _, _⟩) (v := ?_) rfl (by kernel_rfl) (by kernel_rfl) (by kernel_rfl) (fun _ _ _ h => h) (Or.inl ⟨by rfl, ?_⟩) (by assumption) ?_
        rotate_left
        · (intro w hSw; (try dsimp only at hSw); go_simp; (try with_reducible rfl))
        try simp only [Act.put, List.setIfInBounds_toArray, List.set_cons_zero, List.set_cons_succ]
        refine wpAnyH_take (i := 4) (oi := ⟨some 43, _, _, _, _, _⟩) (v := ?_) rfl (by kernel_rfl) (by kernel_rfl) (by kernel_rfl) (fun _ _ _ h => h) (Or.inl ⟨by rfl, ?_⟩) (by assumption) ?_
        rotate_left
        · (intro w hSw; (try dsimp only at hSw); go_simp; (try with_reducible rfl))
        try simp only [Act.put, List.setIfInBounds_toArray, List.set_cons_zero, List.set_cons_succ]
        refine wpAnyH_take (i := 5) (oi := ⟨some 44, _, _, _, _, _⟩) (v := ?_) rfl (by kernel_rfl) (by kernel_rfl) (by kernel_rfl) (fun _ _ _ h => h) (Or.inl ⟨by rfl, ?_⟩) (by assumption) ?_
        rotate_left
        · (intro w hSw; (try dsimp only at hSw); go_simp; (try with_reducible rfl))
        try simp only [Act.put, List.setIfInBounds_toArray, List.set_cons_zero, List.set_cons_succ]
        refine wpAnyH_take (i := 6) (oi := ⟨some 45, _, _, _, _, _⟩) (v := ?_) rfl (by kernel_rfl) (by kernel_rfl) (by kernel_rfl) (fun _ _ _ h => h) (Or.inl ⟨by rfl, ?_⟩) (by assumption) ?_
        rotate_left
        · (intro w hSw; (try dsimp only at hSw); go_simp; (try with_reducible rfl))
        try simp only [Act.put, List.setIfInBounds_toArray, List.set_cons_zero, List.set_cons_succ]
        refine wpAnyH_take (i := 7) (oi := ⟨some 46, _, _, _, _, _⟩) (v := ?_) rfl (by kernel_rfl) (by kernel_rfl) (by kernel_rfl) (fun _ _ _ h => h) (Or.inl ⟨by rfl, ?_⟩) (by assumption) ?_
        rotate_left
        · (intro w hSw; (try dsimp only at hSw); go_simp; (try with_reducible rfl))
        try simp only [Act.put, List.setIfInBounds_toArray, List.set_cons_zero, List.set_cons_succ]
        refine wpAnyH_take (i := 11) (oi := ⟨some 50, _, _, _, _, _⟩) (v := ?_) rfl (by kernel_rfl) (by kernel_rfl) (by kernel_rfl) (fun _ _ _ h => h) (Or.inl ⟨by rfl, ?_⟩) (by assumption) ?_
        rotate_left
        · (intro w hSw; (try dsimp only at hSw); go_simp; (try with_reducible rfl))
        try simp only [Act.put, List.setIfInBounds_toArray, List.set_cons_zero, List.set_cons_succ]
        refine wpAnyH_take (i := 12) (oi := ⟨some 51, _, _, _, _, _⟩) (v := ?_) rfl (by kernel_rfl) (by kernel_rfl) (by kernel_rfl) (fun _ _ _ h => h) (Or.inl ⟨by rfl, ?_⟩) (by assumption) ?_
        rotate_left
        · (intro w hSw; (try dsimp only at hSw); go_simp; (try with_reducible rfl))
        try simp only [Act.put, List.setIfInBounds_toArray, List.set_cons_zero, List.set_cons_succ]
        refine wpAnyH_take (i := 13) (oi := ⟨some 52, _, _, _, _, _⟩) (v := ?_) rfl (by kernel_rfl) (by kernel_rfl) (by kernel_rfl) (fun _ _ _ h => h) (Or.inl ⟨by rfl, ?_⟩) (by assumption) ?_
        rotate_left
        · (intro w hSw; (try dsimp only at hSw); go_simp; (try with_reducible rfl))
        try simp only [Act.put, List.setIfInBounds_toArray, List.set_cons_zero, List.set_cons_succ]
        refine wpAnyH_take (i := 14) (oi := ⟨some 53, _, _, _, _, _⟩) (v := ?_) rfl (by kernel_rfl) (by kernel_rfl) (by kernel_rfl) (fun _ _ _ h => h) (Or.inl ⟨by rfl, ?_⟩) (by assumption) ?_
        rotate_left
        · (intro w hSw; (try dsimp only at hSw); go_simp; (try with_reducible rfl))
        try simp only [Act.put, List.setIfInBounds_toArray, List.set_cons_zero, List.set_cons_succ]
        refine wpAnyH_take (i := 15) (oi := ⟨some 54, _, _, _, _, _⟩) (v := ?_) rfl (by kernel_rfl) (by kernel_rfl) (by kernel_rfl) (fun _ _ _ h => h) (Or.inl ⟨by rfl, ?_⟩) (by assumption) ?_
        rotate_left
        · (intro w hSw; (try dsimp only at hSw); go_simp; (try with_reducible rfl))
        try simp only [Act.put, List.setIfInBounds_toArray, List.set_cons_zero, List.set_cons_succ]
        refine wpAnyH_ready (rs := [8]) (by kernel_rfl) (by simp) ?_
        refine AllReadyH.cons (o := ⟨some 47, _, _, _, _, _⟩) rfl (fun K hK => ?_) AllReadyH.nil
        go_simp
        with_reducible refine (KX.out _ hHeld.2.2.2.2.2.2.2.2.out).mono ?_
        rintro e w' ⟨rfl, hb⟩
        go_wp2_with fail
        refine hK.out _ _ ?_ (fun hHeld => ?_)
        · exact ⟨cell_keep' hb hHeld.1, cell_keep' hb hHeld.2.1, cell_keep' hb hHeld.2.2.1, cell_keep' hb hHeld.2.2.2.1, cell_keep' hb hHeld.2.2.2.2.1, cell_keep' hb hHeld.2.2.2.2.2.1, cell_keep' hb hHeld.2.2.2.2.2.2.1, cell_keep' hb hHeld.2.2.2.2.2.2.2.1, Lib.hid (below_next hHeld.2.2.2.2.2.2.2.2.out hb)⟩
        clear hK K
        try simp only [Act.put, List.setIfInBounds_toArray, List.set_cons_zero, List.set_cons_succ]
        clear hb
        refine wpAnyH_take (i := 9) (oi := ⟨some 48, _, _, _, _, _⟩) (v := ?_) rfl (by kernel_rfl) (by kernel_rfl) (by kernel_rfl) (fun _ _ _ h => h) (Or.inl ⟨by rfl, ?_⟩) (by assumption) ?_
        rotate_left
        · (intro w hSw; (try dsimp only at hSw); go_simp; (try with_reducible rfl))
        try simp only [Act.put, List.setIfInBounds_toArray, List.set_cons_zero, List.set_cons_succ]
        refine wpAnyH_take (i := 10) (oi := ⟨some 49, _, _, _, _, _⟩) (v := ?_) rfl (by kernel_rfl) (by kernel_rfl) (by kernel_rfl) (fun _ _ _ h => h) (Or.inl ⟨by rfl, ?_⟩) (by assumption) ?_
        rotate_left
        · (intro w hSw; (try dsimp only at hSw); go_simp; (try with_reducible rfl))
        try simp only [Act.put, List.setIfInBounds_toArray, List.set_cons_zero, List.set_cons_succ]
        refine wpAnyH_ready (rs := [16]) (by kernel_rfl) (by simp) ?_
        refine AllReadyH.cons (o := ⟨some 55, _, _, _, _, _⟩) rfl (fun K hK => ?_) AllReadyH.nil
        go_simp
        with_reducible refine (KY.out _ hHeld.2.2.2.2.2.2.2.2.out).mono ?_
        rintro e w' ⟨rfl, hb⟩
        go_wp2_with fail
        refine hK.out _ _ ?_ (fun hHeld => ?_)
        · exact ⟨cell_keep' hb hHeld.1, cell_keep' hb hHeld.2.1, cell_keep' hb hHeld.2.2.1, cell_keep' hb hHeld.2.2.2.1, cell_keep' hb hHeld.2.2.2.2.1, cell_keep' hb hHeld.2.2.2.2.2.1, cell_keep' hb hHeld.2.2.2.2.2.2.1, cell_keep' hb hHeld.2.2.2.2.2.2.2.1, Lib.hid (below_next hHeld.2.2.2.2.2.2.2.2.out hb)⟩
        clear hK K
        try simp only [Act.put, List.setIfInBounds_toArray, List.set_cons_zero, List.set_cons_succ]
        clear hb
        refine wpAnyH_take (i := 17) (oi := ⟨some 56, _, _, _, _, _⟩) (v := ?_) rfl (by kernel_rfl) (by kernel_rfl) (by kernel_rfl) (fun _ _ _ h => h) (Or.inl ⟨by rfl, ?_⟩) (by assumption) ?_
        rotate_left
        · (intro w hSw; (try dsimp only at hSw); go_simp; (try with_reducible rfl))
        try simp only [Act.put, List.setIfInBounds_toArray, List.set_cons_zero, List.set_cons_succ]
        refine wpAnyH_take (i := 18) (oi := ⟨some 2, _, _, _, _, _⟩) (v := ?_) rfl (by kernel_rfl) (by kernel_rfl) (by kernel_rfl) (fun _ _ _ h => h) (Or.inl ⟨by rfl, ?_⟩) (by assumption) ?_
        rotate_left
        · (intro w hSw; (try dsimp only at hSw); go_simp; (try with_reducible rfl))
        try simp only [Act.put, List.setIfInBounds_toArray, List.set_cons_zero, List.set_cons_succ]
        refine wpAnyH_done (by kernel_rfl) ?_ _
        have HZ := Lib.hid hHeld.2.2.2.2.2.2.2.2.out
        clear hHeld
        go_wp2_with fail
        go_ret
        exact ⟨rfl, HZ.out⟩
    · obtain ⟨x, rfl⟩ : ∃ x, ls = [x] := by
        match ls, HN.out with
        | [x], _ => exact ⟨x, rfl⟩
      change ([119, 101, 97, 107, 32] ++ Sy.par 7 (Sy.level x, Sy.text x)).length ≤ _ at hl
      show Calls _ _ _ _ (fun r w' => r = .returned (.string ⟨([119, 101, 97, 107, 32] ++ Sy.par 7 (Sy.level x, Sy.text x)).toArray⟩) ∧ _)
      have HL := Lib.hid hl
      clear hl
      obtain ⟨b', o', pa, AN, ca, rfl, hAN, hc, hsl⟩ := argAt HS.out (j := 0) (x := x) rfl
      have KX : Hid (∀ W, Below w.heap.size w W → Calls Tryz.prog 80 #[exprV x (.slice pa AN ca), .int .i64 7] W fun r w' => r = .returned (.string ⟨(Sy.par 7 (Sy.level x, Sy.text x)).toArray⟩) ∧ Below W.heap.size W w') := fun W hb => refIn_of ih x pa AN ca 7 W (HD.out x (by simp)) (HV.out x (by simp)) hAN (hsl.keep hb) (by have hl := HL.out; have h2 := Sy.par_long 7 (Sy.level x, Sy.text x); simp only [List.length_append, List.length_cons, List.length_nil] at hl h2; omega)
      unfold exprV at KX
      obtain ⟨A, hA⟩ : ∃ A : ByteArray, ⟨(Sy.par 7 (Sy.level x, Sy.text x)).toArray⟩ = A := ⟨_, rfl⟩
      have hAl : A.size ≤ 1000000000 := by rw [← hA]; show (Sy.par 7 (Sy.level x, Sy.text x)).length ≤ _; have hl := HL.out; simp only [List.length_append, List.length_cons, List.length_nil] at hl; omega
      rw [hA] at KX
      have HF : Hid (⟨#[119, 101, 97, 107, 32]⟩ ++ A = ⟨([119, 101, 97, 107, 32] ++ Sy.par 7 (Sy.level x, Sy.text x)).toArray⟩) := by show _ = _; rw [← mk_app, hA]; try rfl
      rw [← HF.out]
      clear HF
      have k1 : ¬ 9223372036854775807 < 5 + A.size := by omega
      obtain ⟨y0, y1, y2, y3, y4, y5⟩ := hc.keep HB1.out
      simp only [Nat.zero_mul, Nat.add_zero] at y0 y1 y2 y3 y4 y5
      have z0 := cell_of_blkP HC1.out (j := 0) (u := .int .i64 6) rfl
      have z5 := cell_of_blkP HC1.out (j := 5) (u := .slice (some ⟨b', o', none⟩) 1 c) rfl
      have hl1 := cell_lt' z0
      have hl2 := cell_lt' y0
      clear hAN hc hsl hA hAl
      go_enter Tryz.func44, Tryz.ntmps44
      go_upto_region 18 with fail
      rw [← HW1.out]
      clear HW1
      go_wp2_with fail
      refine (KX.out _ HB1.out).mono ?_
      rintro e' w2 ⟨rfl, hb2⟩
      have HZ := Lib.hid (below_next HB1.out hb2)
      clear hb2 z0 z5 y0 y1 y2 y3 y4 y5 hl1 hl2
      go_wp2_with fail
      go_ret
      exact ⟨rfl, HZ.out⟩
    · obtain ⟨x, rfl⟩ : ∃ x, ls = [x] := by
        match ls, HN.out with
        | [x], _ => exact ⟨x, rfl⟩
      change ([103, 101, 116, 32] ++ Sy.par 7 (Sy.level x, Sy.text x)).length ≤ _ at hl
      show Calls _ _ _ _ (fun r w' => r = .returned (.string ⟨([103, 101, 116, 32] ++ Sy.par 7 (Sy.level x, Sy.text x)).toArray⟩) ∧ _)
      have HL := Lib.hid hl
      clear hl
      obtain ⟨b', o', pa, AN, ca, rfl, hAN, hc, hsl⟩ := argAt HS.out (j := 0) (x := x) rfl
      have KX : Hid (∀ W, Below w.heap.size w W → Calls Tryz.prog 80 #[exprV x (.slice pa AN ca), .int .i64 7] W fun r w' => r = .returned (.string ⟨(Sy.par 7 (Sy.level x, Sy.text x)).toArray⟩) ∧ Below W.heap.size W w') := fun W hb => refIn_of ih x pa AN ca 7 W (HD.out x (by simp)) (HV.out x (by simp)) hAN (hsl.keep hb) (by have hl := HL.out; have h2 := Sy.par_long 7 (Sy.level x, Sy.text x); simp only [List.length_append, List.length_cons, List.length_nil] at hl h2; omega)
      unfold exprV at KX
      obtain ⟨A, hA⟩ : ∃ A : ByteArray, ⟨(Sy.par 7 (Sy.level x, Sy.text x)).toArray⟩ = A := ⟨_, rfl⟩
      have hAl : A.size ≤ 1000000000 := by rw [← hA]; show (Sy.par 7 (Sy.level x, Sy.text x)).length ≤ _; have hl := HL.out; simp only [List.length_append, List.length_cons, List.length_nil] at hl; omega
      rw [hA] at KX
      have HF : Hid (⟨#[103, 101, 116, 32]⟩ ++ A = ⟨([103, 101, 116, 32] ++ Sy.par 7 (Sy.level x, Sy.text x)).toArray⟩) := by show _ = _; rw [← mk_app, hA]; try rfl
      rw [← HF.out]
      clear HF
      have k1 : ¬ 9223372036854775807 < 4 + A.size := by omega
      obtain ⟨y0, y1, y2, y3, y4, y5⟩ := hc.keep HB1.out
      simp only [Nat.zero_mul, Nat.add_zero] at y0 y1 y2 y3 y4 y5
      have z0 := cell_of_blkP HC1.out (j := 0) (u := .int .i64 7) rfl
      have z5 := cell_of_blkP HC1.out (j := 5) (u := .slice (some ⟨b', o', none⟩) 1 c) rfl
      have hl1 := cell_lt' z0
      have hl2 := cell_lt' y0
      clear hAN hc hsl hA hAl
      go_enter Tryz.func44, Tryz.ntmps44
      go_upto_region 20 with fail
      rw [← HW1.out]
      clear HW1
      go_wp2_with fail
      refine (KX.out _ HB1.out).mono ?_
      rintro e' w2 ⟨rfl, hb2⟩
      have HZ := Lib.hid (below_next HB1.out hb2)
      clear hb2 z0 z5 y0 y1 y2 y3 y4 y5 hl1 hl2
      go_wp2_with fail
      go_ret
      exact ⟨rfl, HZ.out⟩
    · obtain ⟨x, rfl⟩ : ∃ x, ls = [x] := by
        match ls, HN.out with
        | [x], _ => exact ⟨x, rfl⟩
      change ([45] ++ Sy.par 7 (Sy.level x, Sy.text x)).length ≤ _ at hl
      show Calls _ _ _ _ (fun r w' => r = .returned (.string ⟨([45] ++ Sy.par 7 (Sy.level x, Sy.text x)).toArray⟩) ∧ _)
      have HL := Lib.hid hl
      clear hl
      obtain ⟨b', o', pa, AN, ca, rfl, hAN, hc, hsl⟩ := argAt HS.out (j := 0) (x := x) rfl
      have KX : Hid (∀ W, Below w.heap.size w W → Calls Tryz.prog 80 #[exprV x (.slice pa AN ca), .int .i64 7] W fun r w' => r = .returned (.string ⟨(Sy.par 7 (Sy.level x, Sy.text x)).toArray⟩) ∧ Below W.heap.size W w') := fun W hb => refIn_of ih x pa AN ca 7 W (HD.out x (by simp)) (HV.out x (by simp)) hAN (hsl.keep hb) (by have hl := HL.out; have h2 := Sy.par_long 7 (Sy.level x, Sy.text x); simp only [List.length_append, List.length_cons, List.length_nil] at hl h2; omega)
      unfold exprV at KX
      obtain ⟨A, hA⟩ : ∃ A : ByteArray, ⟨(Sy.par 7 (Sy.level x, Sy.text x)).toArray⟩ = A := ⟨_, rfl⟩
      have hAl : A.size ≤ 1000000000 := by rw [← hA]; show (Sy.par 7 (Sy.level x, Sy.text x)).length ≤ _; have hl := HL.out; simp only [List.length_append, List.length_cons, List.length_nil] at hl; omega
      rw [hA] at KX
      have HF : Hid (⟨#[45]⟩ ++ A = ⟨([45] ++ Sy.par 7 (Sy.level x, Sy.text x)).toArray⟩) := by show _ = _; rw [← mk_app, hA]; try rfl
      rw [← HF.out]
      clear HF
      have k1 : ¬ 9223372036854775807 < 1 + A.size := by omega
      obtain ⟨y0, y1, y2, y3, y4, y5⟩ := hc.keep HB1.out
      simp only [Nat.zero_mul, Nat.add_zero] at y0 y1 y2 y3 y4 y5
      have z0 := cell_of_blkP HC1.out (j := 0) (u := .int .i64 8) rfl
      have z5 := cell_of_blkP HC1.out (j := 5) (u := .slice (some ⟨b', o', none⟩) 1 c) rfl
      have hl1 := cell_lt' z0
      have hl2 := cell_lt' y0
      clear hAN hc hsl hA hAl
      go_enter Tryz.func44, Tryz.ntmps44
      go_upto_region 22 with fail
      rw [← HW1.out]
      clear HW1
      go_wp2_with fail
      refine (KX.out _ HB1.out).mono ?_
      rintro e' w2 ⟨rfl, hb2⟩
      have HZ := Lib.hid (below_next HB1.out hb2)
      clear hb2 z0 z5 y0 y1 y2 y3 y4 y5 hl1 hl2
      go_wp2_with fail
      go_ret
      exact ⟨rfl, HZ.out⟩
    · obtain ⟨x, rfl⟩ : ∃ x, ls = [x] := by
        match ls, HN.out with
        | [x], _ => exact ⟨x, rfl⟩
      change ([110, 111, 116, 32] ++ Sy.par 3 (Sy.level x, Sy.text x)).length ≤ _ at hl
      show Calls _ _ _ _ (fun r w' => r = .returned (.string ⟨([110, 111, 116, 32] ++ Sy.par 3 (Sy.level x, Sy.text x)).toArray⟩) ∧ _)
      have HL := Lib.hid hl
      clear hl
      obtain ⟨b', o', pa, AN, ca, rfl, hAN, hc, hsl⟩ := argAt HS.out (j := 0) (x := x) rfl
      have KX : Hid (∀ W, Below w.heap.size w W → Calls Tryz.prog 80 #[exprV x (.slice pa AN ca), .int .i64 3] W fun r w' => r = .returned (.string ⟨(Sy.par 3 (Sy.level x, Sy.text x)).toArray⟩) ∧ Below W.heap.size W w') := fun W hb => refIn_of ih x pa AN ca 3 W (HD.out x (by simp)) (HV.out x (by simp)) hAN (hsl.keep hb) (by have hl := HL.out; have h2 := Sy.par_long 3 (Sy.level x, Sy.text x); simp only [List.length_append, List.length_cons, List.length_nil] at hl h2; omega)
      unfold exprV at KX
      obtain ⟨A, hA⟩ : ∃ A : ByteArray, ⟨(Sy.par 3 (Sy.level x, Sy.text x)).toArray⟩ = A := ⟨_, rfl⟩
      have hAl : A.size ≤ 1000000000 := by rw [← hA]; show (Sy.par 3 (Sy.level x, Sy.text x)).length ≤ _; have hl := HL.out; simp only [List.length_append, List.length_cons, List.length_nil] at hl; omega
      rw [hA] at KX
      have HF : Hid (⟨#[110, 111, 116, 32]⟩ ++ A = ⟨([110, 111, 116, 32] ++ Sy.par 3 (Sy.level x, Sy.text x)).toArray⟩) := by show _ = _; rw [← mk_app, hA]; try rfl
      rw [← HF.out]
      clear HF
      have k1 : ¬ 9223372036854775807 < 4 + A.size := by omega
      obtain ⟨y0, y1, y2, y3, y4, y5⟩ := hc.keep HB1.out
      simp only [Nat.zero_mul, Nat.add_zero] at y0 y1 y2 y3 y4 y5
      have z0 := cell_of_blkP HC1.out (j := 0) (u := .int .i64 9) rfl
      have z5 := cell_of_blkP HC1.out (j := 5) (u := .slice (some ⟨b', o', none⟩) 1 c) rfl
      have hl1 := cell_lt' z0
      have hl2 := cell_lt' y0
      clear hAN hc hsl hA hAl
      go_enter Tryz.func44, Tryz.ntmps44
      go_upto_region 24 with fail
      rw [← HW1.out]
      clear HW1
      go_wp2_with fail
      refine (KX.out _ HB1.out).mono ?_
      rintro e' w2 ⟨rfl, hb2⟩
      have HZ := Lib.hid (below_next HB1.out hb2)
      clear hb2 z0 z5 y0 y1 y2 y3 y4 y5 hl1 hl2
      go_wp2_with fail
      go_ret
      exact ⟨rfl, HZ.out⟩
    · obtain ⟨x, y, rfl⟩ : ∃ x y, ls = [x, y] := by
        match ls, HN.out with
        | [x, y], _ => exact ⟨x, y, rfl⟩
      obtain ⟨O, rfl⟩ : ∃ q : Nat, o = q := ⟨o.toNat, by omega⟩
      have hl0 : (Sy.par (if Sy.opLevel O = 4 then 5 else Sy.opLevel O) (Sy.level x, Sy.text x) ++ [32] ++ Sy.sym O ++ [32] ++ Sy.par (Sy.opLevel O + 1) (Sy.level y, Sy.text y)).length ≤ 1000000000 := hl
      show Calls _ _ _ _ (fun r w' => r = .returned (.string ⟨(Sy.par (if Sy.opLevel O = 4 then 5 else Sy.opLevel O) (Sy.level x, Sy.text x) ++ [32] ++ Sy.sym O ++ [32] ++ Sy.par (Sy.opLevel O + 1) (Sy.level y, Sy.text y)).toArray⟩) ∧ _)
      clear hl
      obtain ⟨b', o', pa, AN, ca, rfl, hAN, hc, hsl⟩ := argAt HS.out (j := 0) (x := x) rfl
      obtain ⟨b2, o2, pb, BN, cb, e2, hBN, hc2, hsl2⟩ := argAt HS.out (j := 1) (x := y) rfl
      cases e2
      have KO := Lib.hid (refOpLevel_any O (by omega))
      have KS : Hid (∀ W, Below w.heap.size w W → Calls Tryz.prog 31 #[.int .i64 O] W fun r w' => r = .returned (.string ⟨(Sy.sym O).toArray⟩) ∧ Below W.heap.size W w') := fun W _ => refSymbol_any O (by omega) W
      have hsl3 := Sy.sym_len O
      have hlv : Sy.opLevel O ≤ 6 := opLevel_le O
      obtain ⟨LV, hLV⟩ : ∃ q, Sy.opLevel O = q := ⟨_, rfl⟩
      rw [hLV] at KO hl0 hlv ⊢
      obtain ⟨y0, y1, y2, y3, y4, y5⟩ := hc.keep HB1.out
      obtain ⟨u0, u1, u2, u3, u4, u5⟩ := hc2.keep HB1.out
      simp only [Nat.zero_mul, Nat.add_zero] at y0 y1 y2 y3 y4 y5
      simp only [Nat.one_mul] at u0 u1 u2 u3 u4 u5
      have z0 := cell_of_blkP HC1.out (j := 0) (u := .int .i64 10) rfl
      have z1 := cell_of_blkP HC1.out (j := 1) (u := .int .i64 O) rfl
      have z5 := cell_of_blkP HC1.out (j := 5) (u := .slice (some ⟨b', o', none⟩) 2 c) rfl
      have hl1 := cell_lt' z0
      have hl2 := cell_lt' y0
      obtain ⟨R1, hR1⟩ : ∃ q, (if LV = 4 then 5 else LV) = q := ⟨_, rfl⟩
      rw [hR1] at hl0 ⊢
      have KX : Hid (∀ W, Below w.heap.size w W → Calls Tryz.prog 80 #[exprV x (.slice pa AN ca), .int .i64 R1] W fun r w' => r = .returned (.string ⟨(Sy.par R1 (Sy.level x, Sy.text x)).toArray⟩) ∧ Below W.heap.size W w') := fun W hb => refIn_of ih x pa AN ca R1 W (HD.out x (by simp)) (HV.out x (by simp)) hAN (hsl.keep hb) (by have h2 := Sy.par_long R1 (Sy.level x, Sy.text x); simp only [List.length_append, List.length_cons, List.length_nil] at hl0 h2; omega)
      have KY : Hid (∀ W, Below w.heap.size w W → Calls Tryz.prog 80 #[exprV y (.slice pb BN cb), .int .i64 ((LV + 1 : Nat) : Int)] W fun r w' => r = .returned (.string ⟨(Sy.par (LV + 1) (Sy.level y, Sy.text y)).toArray⟩) ∧ Below W.heap.size W w') := fun W hb => refIn_of ih y pb BN cb (LV + 1) W (HD.out y (by simp)) (HV.out y (by simp)) hBN (hsl2.keep hb) (by have h2 := Sy.par_long (LV + 1) (Sy.level y, Sy.text y); simp only [List.length_append, List.length_cons, List.length_nil] at hl0 h2; omega)
      unfold exprV at KX KY
      simp only [List.length_append, List.length_cons, List.length_nil] at hl0
      obtain ⟨A, hA⟩ : ∃ A : ByteArray, ⟨(Sy.par R1 (Sy.level x, Sy.text x)).toArray⟩ = A := ⟨_, rfl⟩
      obtain ⟨C, hC⟩ : ∃ A : ByteArray, ⟨(Sy.par (LV + 1) (Sy.level y, Sy.text y)).toArray⟩ = A := ⟨_, rfl⟩
      obtain ⟨M, hM⟩ : ∃ A : ByteArray, ⟨(Sy.sym O).toArray⟩ = A := ⟨_, rfl⟩
      have hAl : A.size ≤ 1000000000 := by rw [← hA]; show (Sy.par R1 (Sy.level x, Sy.text x)).length ≤ _; omega
      have hCl : C.size ≤ 1000000000 := by rw [← hC]; show (Sy.par (LV + 1) (Sy.level y, Sy.text y)).length ≤ _; omega
      have hMl : M.size ≤ 3 := by rw [← hM]; exact hsl3
      rw [hA] at KX
      rw [hC] at KY
      rw [hM] at KS
      have HF : Hid (A ++ ⟨#[32]⟩ ++ M ++ ⟨#[32]⟩ ++ C = ⟨(Sy.par R1 (Sy.level x, Sy.text x) ++ [32] ++ Sy.sym O ++ [32] ++ Sy.par (LV + 1) (Sy.level y, Sy.text y)).toArray⟩) := by show _ = _; rw [← mk_app, ← mk_app, ← mk_app, ← mk_app, hA, hC, hM]; try rfl
      have k1 : ¬ 9223372036854775807 < A.size + 1 := by omega
      have k2 : ¬ 9223372036854775807 < A.size + 1 + M.size := by omega
      have k3 : ¬ 9223372036854775807 < A.size + 1 + M.size + 1 := by omega
      have k4 : ¬ 9223372036854775807 < A.size + 1 + M.size + 1 + C.size := by omega
      rw [← HF.out]
      clear hl0 hAN hBN hc hc2 hsl hsl2 hsl3 hA hC hM hAl hCl hMl hLV HF ho0 ho1
      by_cases h4 : LV = 4
      · subst h4
        rw [if_pos rfl] at hR1
        subst hR1
        have hc5 : ((5 : Nat) : Int) = 5 := rfl
        have hc6 : ((4 + 1 : Nat) : Int) = 5 := rfl
        rw [hc5] at KX
        rw [hc6] at KY
        clear hlv hc5 hc6
        go_enter Tryz.func44, Tryz.ntmps44
        go_upto_region 25 with fail
        rw [← HW1.out]
        clear HW1
        go_wp2_with fail
        refine (KO.out w1).mono ?_
        rintro e' w2 ⟨rfl, hw⟩
        subst hw
        go_upto_region 27 with fail
        refine wp_region_held_drew (S := fun W => W.cell? ⟨w.heap.size, 1, none⟩ = some (.int .i64 O) ∧ W.cell? ⟨w.heap.size, 5, none⟩ = some (.slice (some ⟨b', o', none⟩) 2 c) ∧ W.cell? ⟨b', o', none⟩ = some (.int .i64 x.kind) ∧ W.cell? ⟨b', o' + 1, none⟩ = some (.int .i64 x.op) ∧ W.cell? ⟨b', o' + 2, none⟩ = some (.int .i64 x.int) ∧ W.cell? ⟨b', o' + 3, none⟩ = some (.string x.name) ∧ W.cell? ⟨b', o' + 4, none⟩ = some (.bool x.at_) ∧ W.cell? ⟨b', o' + 5, none⟩ = some (.slice pa AN ca) ∧ W.cell? ⟨b', o' + 6, none⟩ = some (.int .i64 y.kind) ∧ W.cell? ⟨b', o' + 6 + 1, none⟩ = some (.int .i64 y.op) ∧ W.cell? ⟨b', o' + 6 + 2, none⟩ = some (.int .i64 y.int) ∧ W.cell? ⟨b', o' + 6 + 3, none⟩ = some (.string y.name) ∧ W.cell? ⟨b', o' + 6 + 4, none⟩ = some (.bool y.at_) ∧ W.cell? ⟨b', o' + 6 + 5, none⟩ = some (.slice pb BN cb) ∧ Hid (Below w.heap.size w W)) (by kernel_rfl) ?_ (fun hHeld => ?_)
        · exact ⟨z1, z5, y0, y1, y2, y3, y4, y5, u0, u1, u2, u3, u4, u5, Lib.hid (HB1.out).drew⟩
        clear z0 z1 z5 y0 y1 y2 y3 y4 y5 u0 u1 u2 u3 u4 u5
        refine wpAnyH_take (i := 0) (oi := ⟨some 103, _, _, _, _, _⟩) (v := ?_) rfl (by kernel_rfl) (by kernel_rfl) (by kernel_rfl) (fun _ _ _ h => h) (Or.inl ⟨by rfl, ?_⟩) (by assumption) ?_
        rotate_left
        · (intro w hSw; (try dsimp only at hSw); go_simp; (try with_reducible rfl))
        try simp only [Act.put, List.setIfInBounds_toArray, List.set_cons_zero, List.set_cons_succ]
        refine wpAnyH_take (i := 1) (oi := ⟨some 104, _, _, _, _, _⟩) (v := ?_) rfl (by kernel_rfl) (by kernel_rfl) (by kernel_rfl) (fun _ _ _ h => h) (Or.inl ⟨by rfl, ?_⟩) (by assumption) ?_
        rotate_left
        · (intro w hSw; (try dsimp only at hSw); go_simp; (try with_reducible rfl))
        try simp only [Act.put, List.setIfInBounds_toArray, List.set_cons_zero, List.set_cons_succ]
        refine wpAnyH_take (i := 2) (oi := ⟨some 105, _, _, _, _, _⟩) (v := ?_) rfl (by kernel_rfl) (by kernel_rfl) (by kernel_rfl) (fun _ _ _ h => h) (Or.inl ⟨by rfl, ?_⟩) (by assumption) ?_
        rotate_left
        · (intro w hSw; (try dsimp only at hSw); go_simp; (try with_reducible rfl))
        try simp only [Act.put, List.setIfInBounds_toArray, List.set_cons_zero, List.set_cons_succ]
        refine wpAnyH_take (i := 3) (oi := ⟨some 106, _, _, _, _, _⟩) (v := ?_) rfl (by kernel_rfl) (by kernel_rfl) (by kernel_rfl) (fun _ _ _ h => h) (Or.inl ⟨by rfl, ?_⟩) (by assumption) ?_
        rotate_left
        · (intro w hSw; (try dsimp only at hSw); go_simp; (try with_reducible rfl))
        try simp only [Act.put, List.setIfInBounds_toArray, List.set_cons_zero, List.set_cons_succ]
        refine wpAnyH_take (i := 6) (oi := ⟨some 109, _, _, _, _, _⟩) (v := ?_) rfl (by kernel_rfl) (by kernel_rfl) (by kernel_rfl) (fun _ _ _ h => h) (Or.inl ⟨by rfl, ?_⟩) (by assumption) ?_
        rotate_left
        · (intro w hSw; (try dsimp only at hSw); go_simp; (try with_reducible rfl))
        try simp only [Act.put, List.setIfInBounds_toArray, List.set_cons_zero, List.set_cons_succ]
        refine wpAnyH_take (i := 7) (oi := ⟨some 110, _, _, _, _, _⟩) (v := ?_) rfl (by kernel_rfl) (by kernel_rfl) (by kernel_rfl) (fun _ _ _ h => h) (Or.inl ⟨by rfl, ?_⟩) (by assumption) ?_
        rotate_left
        · (intro w hSw; (try dsimp only at hSw); go_simp; (try with_reducible rfl))
        try simp only [Act.put, List.setIfInBounds_toArray, List.set_cons_zero, List.set_cons_succ]
        refine wpAnyH_take (i := 11) (oi := ⟨some 114, _, _, _, _, _⟩) (v := ?_) rfl (by kernel_rfl) (by kernel_rfl) (by kernel_rfl) (fun _ _ _ h => h) (Or.inl ⟨by rfl, ?_⟩) (by assumption) ?_
        rotate_left
        · (intro w hSw; (try dsimp only at hSw); go_simp; (try with_reducible rfl))
        try simp only [Act.put, List.setIfInBounds_toArray, List.set_cons_zero, List.set_cons_succ]
        refine wpAnyH_take (i := 12) (oi := ⟨some 115, _, _, _, _, _⟩) (v := ?_) rfl (by kernel_rfl) (by kernel_rfl) (by kernel_rfl) (fun _ _ _ h => h) (Or.inl ⟨by rfl, ?_⟩) (by assumption) ?_
        rotate_left
        · (intro w hSw; (try dsimp only at hSw); go_simp; (try with_reducible rfl))
        try simp only [Act.put, List.setIfInBounds_toArray, List.set_cons_zero, List.set_cons_succ]
        refine wpAnyH_take (i := 13) (oi := ⟨some 116, _, _, _, _, _⟩) (v := ?_) rfl (by kernel_rfl) (by kernel_rfl) (by kernel_rfl) (fun _ _ _ h => h) (Or.inl ⟨by rfl, ?_⟩) (by assumption) ?_
        rotate_left
        · (intro w hSw; (try dsimp only at hSw); go_simp; (try with_reducible rfl))
        try simp only [Act.put, List.setIfInBounds_toArray, List.set_cons_zero, List.set_cons_succ]
        refine wpAnyH_take (i := 14) (oi := ⟨some 117, _, _, _, _, _⟩) (v := ?_) rfl (by kernel_rfl) (by kernel_rfl) (by kernel_rfl) (fun _ _ _ h => h) (Or.inl ⟨by rfl, ?_⟩) (by assumption) ?_
        rotate_left
        · (intro w hSw; (try dsimp only at hSw); go_simp; (try with_reducible rfl))
        try simp only [Act.put, List.setIfInBounds_toArray, List.set_cons_zero, List.set_cons_succ]
        refine wpAnyH_ready (rs := [4]) (by kernel_rfl) (by simp) ?_
        refine AllReadyH.cons (o := ⟨some 107, _, _, _, _, _⟩) rfl (fun K hK => ?_) AllReadyH.nil
        go_simp
        with_reducible refine (KX.out _ hHeld.2.2.2.2.2.2.2.2.2.2.2.2.2.2.out).mono ?_
        rintro e w' ⟨rfl, hb⟩
        go_wp2_with fail
        refine hK.out _ _ ?_ (fun hHeld => ?_)
        · exact ⟨cell_keep' hb hHeld.1, cell_keep' hb hHeld.2.1, cell_keep' hb hHeld.2.2.1, cell_keep' hb hHeld.2.2.2.1, cell_keep' hb hHeld.2.2.2.2.1, cell_keep' hb hHeld.2.2.2.2.2.1, cell_keep' hb hHeld.2.2.2.2.2.2.1, cell_keep' hb hHeld.2.2.2.2.2.2.2.1, cell_keep' hb hHeld.2.2.2.2.2.2.2.2.1, cell_keep' hb hHeld.2.2.2.2.2.2.2.2.2.1, cell_keep' hb hHeld.2.2.2.2.2.2.2.2.2.2.1, cell_keep' hb hHeld.2.2.2.2.2.2.2.2.2.2.2.1, cell_keep' hb hHeld.2.2.2.2.2.2.2.2.2.2.2.2.1, cell_keep' hb hHeld.2.2.2.2.2.2.2.2.2.2.2.2.2.1, Lib.hid (below_next hHeld.2.2.2.2.2.2.2.2.2.2.2.2.2.2.out hb)⟩
        clear hK K
        try simp only [Act.put, List.setIfInBounds_toArray, List.set_cons_zero, List.set_cons_succ]
        clear hb
        refine wpAnyH_take (i := 5) (oi := ⟨some 108, _, _, _, _, _⟩) (v := ?_) rfl (by kernel_rfl) (by kernel_rfl) (by kernel_rfl) (fun _ _ _ h => h) (Or.inl ⟨by rfl, ?_⟩) (by assumption) ?_
        rotate_left
        · (intro w hSw; (try dsimp only at hSw); go_simp; (try with_reducible rfl))
        try simp only [Act.put, List.setIfInBounds_toArray, List.set_cons_zero, List.set_cons_succ]
        refine wpAnyH_ready (rs := [8]) (by kernel_rfl) (by simp) ?_
        refine AllReadyH.cons (o := ⟨some 111, _, _, _, _, _⟩) rfl (fun K hK => ?_) AllReadyH.nil
        go_simp
        with_reducible refine (KS.out _ hHeld.2.2.2.2.2.2.2.2.2.2.2.2.2.2.out).mono ?_
        rintro e w' ⟨rfl, hb⟩
        go_wp2_with fail
        refine hK.out _ _ ?_ (fun hHeld => ?_)
        · exact ⟨cell_keep' hb hHeld.1, cell_keep' hb hHeld.2.1, cell_keep' hb hHeld.2.2.1, cell_keep' hb hHeld.2.2.2.1, cell_keep' hb hHeld.2.2.2.2.1, cell_keep' hb hHeld.2.2.2.2.2.1, cell_keep' hb hHeld.2.2.2.2.2.2.1, cell_keep' hb hHeld.2.2.2.2.2.2.2.1, cell_keep' hb hHeld.2.2.2.2.2.2.2.2.1, cell_keep' hb hHeld.2.2.2.2.2.2.2.2.2.1, cell_keep' hb hHeld.2.2.2.2.2.2.2.2.2.2.1, cell_keep' hb hHeld.2.2.2.2.2.2.2.2.2.2.2.1, cell_keep' hb hHeld.2.2.2.2.2.2.2.2.2.2.2.2.1, cell_keep' hb hHeld.2.2.2.2.2.2.2.2.2.2.2.2.2.1, Lib.hid (below_next hHeld.2.2.2.2.2.2.2.2.2.2.2.2.2.2.out hb)⟩
        clear hK K
        try simp only [Act.put, List.setIfInBounds_toArray, List.set_cons_zero, List.set_cons_succ]
        clear hb
        refine wpAnyH_take (i := 9) (oi := ⟨some 112, _, _, _, _, _⟩) (v := ?_) rfl (by kernel_rfl) (by kernel_rfl) (by kernel_rfl) (fun _ _ _ h => h) (Or.inl ⟨by rfl, ?_⟩) (by assumption) ?_
        rotate_left
        · (intro w hSw; (try dsimp only at hSw); go_simp; (try with_reducible rfl))
        try simp only [Act.put, List.setIfInBounds_toArray, List.set_cons_zero, List.set_cons_succ]
        refine wpAnyH_take (i := 10) (oi := ⟨some 113, _, _, _, _, _⟩) (v := ?_) rfl (by kernel_rfl) (by kernel_rfl) (by kernel_rfl) (fun _ _ _ h => h) (Or.inl ⟨by rfl, ?_⟩) (by assumption) ?_
        rotate_left
        · (intro w hSw; (try dsimp only at hSw); go_simp; (try with_reducible rfl))
        try simp only [Act.put, List.setIfInBounds_toArray, List.set_cons_zero, List.set_cons_succ]
        refine wpAnyH_ready (rs := [15]) (by kernel_rfl) (by simp) ?_
        refine AllReadyH.cons (o := ⟨some 118, _, _, _, _, _⟩) rfl (fun K hK => ?_) AllReadyH.nil
        go_simp
        with_reducible refine (KY.out _ hHeld.2.2.2.2.2.2.2.2.2.2.2.2.2.2.out).mono ?_
        rintro e w' ⟨rfl, hb⟩
        go_wp2_with fail
        refine hK.out _ _ ?_ (fun hHeld => ?_)
        · exact ⟨cell_keep' hb hHeld.1, cell_keep' hb hHeld.2.1, cell_keep' hb hHeld.2.2.1, cell_keep' hb hHeld.2.2.2.1, cell_keep' hb hHeld.2.2.2.2.1, cell_keep' hb hHeld.2.2.2.2.2.1, cell_keep' hb hHeld.2.2.2.2.2.2.1, cell_keep' hb hHeld.2.2.2.2.2.2.2.1, cell_keep' hb hHeld.2.2.2.2.2.2.2.2.1, cell_keep' hb hHeld.2.2.2.2.2.2.2.2.2.1, cell_keep' hb hHeld.2.2.2.2.2.2.2.2.2.2.1, cell_keep' hb hHeld.2.2.2.2.2.2.2.2.2.2.2.1, cell_keep' hb hHeld.2.2.2.2.2.2.2.2.2.2.2.2.1, cell_keep' hb hHeld.2.2.2.2.2.2.2.2.2.2.2.2.2.1, Lib.hid (below_next hHeld.2.2.2.2.2.2.2.2.2.2.2.2.2.2.out hb)⟩
        clear hK K
        try simp only [Act.put, List.setIfInBounds_toArray, List.set_cons_zero, List.set_cons_succ]
        clear hb
        refine wpAnyH_take (i := 16) (oi := ⟨some 119, _, _, _, _, _⟩) (v := ?_) rfl (by kernel_rfl) (by kernel_rfl) (by kernel_rfl) (fun _ _ _ h => h) (Or.inl ⟨by rfl, ?_⟩) (by assumption) ?_
        rotate_left
        · (intro w hSw; (try dsimp only at hSw); go_simp; (try with_reducible rfl))
        try simp only [Act.put, List.setIfInBounds_toArray, List.set_cons_zero, List.set_cons_succ]
        refine wpAnyH_take (i := 17) (oi := ⟨some 2, _, _, _, _, _⟩) (v := ?_) rfl (by kernel_rfl) (by kernel_rfl) (by kernel_rfl) (fun _ _ _ h => h) (Or.inl ⟨by rfl, ?_⟩) (by assumption) ?_
        rotate_left
        · (intro w hSw; (try dsimp only at hSw); go_simp; (try with_reducible rfl))
        try simp only [Act.put, List.setIfInBounds_toArray, List.set_cons_zero, List.set_cons_succ]
        refine wpAnyH_done (by kernel_rfl) ?_ _
        have HZ := Lib.hid hHeld.2.2.2.2.2.2.2.2.2.2.2.2.2.2.out
        clear hHeld
        go_wp2_with fail
        go_ret
        exact ⟨rfl, HZ.out⟩
      · rw [if_neg h4] at hR1
        subst hR1
        have n4 : ¬ (LV : Int) = 4 := by omega
        have bw : IntKind.i64.wrap ((LV : Int) + 1) = (LV : Int) + 1 := IntWalk.i64_in _ (by omega)
        have hc1 : ((LV + 1 : Nat) : Int) = (LV : Int) + 1 := by omega
        rw [hc1] at KY
        clear hc1 hlv h4
        go_enter Tryz.func44, Tryz.ntmps44
        go_upto_region 25 with fail
        rw [← HW1.out]
        clear HW1
        go_wp2_with fail
        refine (KO.out w1).mono ?_
        rintro e' w2 ⟨rfl, hw⟩
        subst hw
        go_upto_region 28 with fail
        refine wp_region_held_drew (S := fun W => W.cell? ⟨w.heap.size, 1, none⟩ = some (.int .i64 O) ∧ W.cell? ⟨w.heap.size, 5, none⟩ = some (.slice (some ⟨b', o', none⟩) 2 c) ∧ W.cell? ⟨b', o', none⟩ = some (.int .i64 x.kind) ∧ W.cell? ⟨b', o' + 1, none⟩ = some (.int .i64 x.op) ∧ W.cell? ⟨b', o' + 2, none⟩ = some (.int .i64 x.int) ∧ W.cell? ⟨b', o' + 3, none⟩ = some (.string x.name) ∧ W.cell? ⟨b', o' + 4, none⟩ = some (.bool x.at_) ∧ W.cell? ⟨b', o' + 5, none⟩ = some (.slice pa AN ca) ∧ W.cell? ⟨b', o' + 6, none⟩ = some (.int .i64 y.kind) ∧ W.cell? ⟨b', o' + 6 + 1, none⟩ = some (.int .i64 y.op) ∧ W.cell? ⟨b', o' + 6 + 2, none⟩ = some (.int .i64 y.int) ∧ W.cell? ⟨b', o' + 6 + 3, none⟩ = some (.string y.name) ∧ W.cell? ⟨b', o' + 6 + 4, none⟩ = some (.bool y.at_) ∧ W.cell? ⟨b', o' + 6 + 5, none⟩ = some (.slice pb BN cb) ∧ Hid (Below w.heap.size w W)) (by kernel_rfl) ?_ (fun hHeld => ?_)
        · exact ⟨z1, z5, y0, y1, y2, y3, y4, y5, u0, u1, u2, u3, u4, u5, Lib.hid (HB1.out).drew⟩
        clear z0 z1 z5 y0 y1 y2 y3 y4 y5 u0 u1 u2 u3 u4 u5
        refine wpAnyH_take (i := 0) (oi := ⟨some 120, _, _, _, _, _⟩) (v := ?_) rfl (by kernel_rfl) (by kernel_rfl) (by kernel_rfl) (fun _ _ _ h => h) (Or.inl ⟨by rfl, ?_⟩) (by assumption) ?_
        rotate_left
        · (intro w hSw; (try dsimp only at hSw); go_simp; (try with_reducible rfl))
        try simp only [Act.put, List.setIfInBounds_toArray, List.set_cons_zero, List.set_cons_succ]
        refine wpAnyH_take (i := 1) (oi := ⟨some 121, _, _, _, _, _⟩) (v := ?_) rfl (by kernel_rfl) (by kernel_rfl) (by kernel_rfl) (fun _ _ _ h => h) (Or.inl ⟨by rfl, ?_⟩) (by assumption) ?_
        rotate_left
        · (intro w hSw; (try dsimp only at hSw); go_simp; (try with_reducible rfl))
        try simp only [Act.put, List.setIfInBounds_toArray, List.set_cons_zero, List.set_cons_succ]
        refine wpAnyH_take (i := 2) (oi := ⟨some 122, _, _, _, _, _⟩) (v := ?_) rfl (by kernel_rfl) (by kernel_rfl) (by kernel_rfl) (fun _ _ _ h => h) (Or.inl ⟨by rfl, ?_⟩) (by assumption) ?_
        rotate_left
        · (intro w hSw; (try dsimp only at hSw); go_simp; (try with_reducible rfl))
        try simp only [Act.put, List.setIfInBounds_toArray, List.set_cons_zero, List.set_cons_succ]
        refine wpAnyH_take (i := 3) (oi := ⟨some 123, _, _, _, _, _⟩) (v := ?_) rfl (by kernel_rfl) (by kernel_rfl) (by kernel_rfl) (fun _ _ _ h => h) (Or.inl ⟨by rfl, ?_⟩) (by assumption) ?_
        rotate_left
        · (intro w hSw; (try dsimp only at hSw); go_simp; (try with_reducible rfl))
        try simp only [Act.put, List.setIfInBounds_toArray, List.set_cons_zero, List.set_cons_succ]
        refine wpAnyH_take (i := 4) (oi := ⟨some 124, _, _, _, _, _⟩) (v := ?_) rfl (by kernel_rfl) (by kernel_rfl) (by kernel_rfl) (fun _ _ _ h => h) (Or.inl ⟨by rfl, ?_⟩) (by assumption) ?_
        rotate_left
        · (intro w hSw; (try dsimp only at hSw); go_simp; (try with_reducible rfl))
        try simp only [Act.put, List.setIfInBounds_toArray, List.set_cons_zero, List.set_cons_succ]
        refine wpAnyH_take (i := 7) (oi := ⟨some 127, _, _, _, _, _⟩) (v := ?_) rfl (by kernel_rfl) (by kernel_rfl) (by kernel_rfl) (fun _ _ _ h => h) (Or.inl ⟨by rfl, ?_⟩) (by assumption) ?_
        rotate_left
        · (intro w hSw; (try dsimp only at hSw); go_simp; (try with_reducible rfl))
        try simp only [Act.put, List.setIfInBounds_toArray, List.set_cons_zero, List.set_cons_succ]
        refine wpAnyH_take (i := 8) (oi := ⟨some 128, _, _, _, _, _⟩) (v := ?_) rfl (by kernel_rfl) (by kernel_rfl) (by kernel_rfl) (fun _ _ _ h => h) (Or.inl ⟨by rfl, ?_⟩) (by assumption) ?_
        rotate_left
        · (intro w hSw; (try dsimp only at hSw); go_simp; (try with_reducible rfl))
        try simp only [Act.put, List.setIfInBounds_toArray, List.set_cons_zero, List.set_cons_succ]
        refine wpAnyH_take (i := 12) (oi := ⟨some 132, _, _, _, _, _⟩) (v := ?_) rfl (by kernel_rfl) (by kernel_rfl) (by kernel_rfl) (fun _ _ _ h => h) (Or.inl ⟨by rfl, ?_⟩) (by assumption) ?_
        rotate_left
        · (intro w hSw; (try dsimp only at hSw); go_simp; (try with_reducible rfl))
        try simp only [Act.put, List.setIfInBounds_toArray, List.set_cons_zero, List.set_cons_succ]
        refine wpAnyH_take (i := 13) (oi := ⟨some 133, _, _, _, _, _⟩) (v := ?_) rfl (by kernel_rfl) (by kernel_rfl) (by kernel_rfl) (fun _ _ _ h => h) (Or.inl ⟨by rfl, ?_⟩) (by assumption) ?_
        rotate_left
        · (intro w hSw; (try dsimp only at hSw); go_simp; (try with_reducible rfl))
        try simp only [Act.put, List.setIfInBounds_toArray, List.set_cons_zero, List.set_cons_succ]
        refine wpAnyH_take (i := 14) (oi := ⟨some 134, _, _, _, _, _⟩) (v := ?_) rfl (by kernel_rfl) (by kernel_rfl) (by kernel_rfl) (fun _ _ _ h => h) (Or.inl ⟨by rfl, ?_⟩) (by assumption) ?_
        rotate_left
        · (intro w hSw; (try dsimp only at hSw); go_simp; (try with_reducible rfl))
        try simp only [Act.put, List.setIfInBounds_toArray, List.set_cons_zero, List.set_cons_succ]
        refine wpAnyH_take (i := 15) (oi := ⟨some 135, _, _, _, _, _⟩) (v := ?_) rfl (by kernel_rfl) (by kernel_rfl) (by kernel_rfl) (fun _ _ _ h => h) (Or.inl ⟨by rfl, ?_⟩) (by assumption) ?_
        rotate_left
        · (intro w hSw; (try dsimp only at hSw); go_simp; (try with_reducible rfl))
        try simp only [Act.put, List.setIfInBounds_toArray, List.set_cons_zero, List.set_cons_succ]
        refine wpAnyH_take (i := 16) (oi := ⟨some 136, _, _, _, _, _⟩) (v := ?_) rfl (by kernel_rfl) (by kernel_rfl) (by kernel_rfl) (fun _ _ _ h => h) (Or.inl ⟨by rfl, ?_⟩) (by assumption) ?_
        rotate_left
        · (intro w hSw; (try dsimp only at hSw); go_simp; (try with_reducible rfl))
        try simp only [Act.put, List.setIfInBounds_toArray, List.set_cons_zero, List.set_cons_succ]
        refine wpAnyH_take (i := 17) (oi := ⟨some 137, _, _, _, _, _⟩) (v := ?_) rfl (by kernel_rfl) (by kernel_rfl) (by kernel_rfl) (fun _ _ _ h => h) (Or.inl ⟨by rfl, ?_⟩) (by assumption) ?_
        rotate_left
        · (intro w hSw; (try dsimp only at hSw); go_simp; (try with_reducible rfl))
        try simp only [Act.put, List.setIfInBounds_toArray, List.set_cons_zero, List.set_cons_succ]
        refine wpAnyH_ready (rs := [5]) (by kernel_rfl) (by simp) ?_
        refine AllReadyH.cons (o := ⟨some 125, _, _, _, _, _⟩) rfl (fun K hK => ?_) AllReadyH.nil
        go_simp
        with_reducible refine (KX.out _ hHeld.2.2.2.2.2.2.2.2.2.2.2.2.2.2.out).mono ?_
        rintro e w' ⟨rfl, hb⟩
        go_wp2_with fail
        refine hK.out _ _ ?_ (fun hHeld => ?_)
        · exact ⟨cell_keep' hb hHeld.1, cell_keep' hb hHeld.2.1, cell_keep' hb hHeld.2.2.1, cell_keep' hb hHeld.2.2.2.1, cell_keep' hb hHeld.2.2.2.2.1, cell_keep' hb hHeld.2.2.2.2.2.1, cell_keep' hb hHeld.2.2.2.2.2.2.1, cell_keep' hb hHeld.2.2.2.2.2.2.2.1, cell_keep' hb hHeld.2.2.2.2.2.2.2.2.1, cell_keep' hb hHeld.2.2.2.2.2.2.2.2.2.1, cell_keep' hb hHeld.2.2.2.2.2.2.2.2.2.2.1, cell_keep' hb hHeld.2.2.2.2.2.2.2.2.2.2.2.1, cell_keep' hb hHeld.2.2.2.2.2.2.2.2.2.2.2.2.1, cell_keep' hb hHeld.2.2.2.2.2.2.2.2.2.2.2.2.2.1, Lib.hid (below_next hHeld.2.2.2.2.2.2.2.2.2.2.2.2.2.2.out hb)⟩
        clear hK K
        try simp only [Act.put, List.setIfInBounds_toArray, List.set_cons_zero, List.set_cons_succ]
        clear hb
        refine wpAnyH_take (i := 6) (oi := ⟨some 126, _, _, _, _, _⟩) (v := ?_) rfl (by kernel_rfl) (by kernel_rfl) (by kernel_rfl) (fun _ _ _ h => h) (Or.inl ⟨by rfl, ?_⟩) (by assumption) ?_
        rotate_left
        · (intro w hSw; (try dsimp only at hSw); go_simp; (try with_reducible rfl))
        try simp only [Act.put, List.setIfInBounds_toArray, List.set_cons_zero, List.set_cons_succ]
        refine wpAnyH_ready (rs := [9]) (by kernel_rfl) (by simp) ?_
        refine AllReadyH.cons (o := ⟨some 129, _, _, _, _, _⟩) rfl (fun K hK => ?_) AllReadyH.nil
        go_simp
        with_reducible refine (KS.out _ hHeld.2.2.2.2.2.2.2.2.2.2.2.2.2.2.out).mono ?_
        rintro e w' ⟨rfl, hb⟩
        go_wp2_with fail
        refine hK.out _ _ ?_ (fun hHeld => ?_)
        · exact ⟨cell_keep' hb hHeld.1, cell_keep' hb hHeld.2.1, cell_keep' hb hHeld.2.2.1, cell_keep' hb hHeld.2.2.2.1, cell_keep' hb hHeld.2.2.2.2.1, cell_keep' hb hHeld.2.2.2.2.2.1, cell_keep' hb hHeld.2.2.2.2.2.2.1, cell_keep' hb hHeld.2.2.2.2.2.2.2.1, cell_keep' hb hHeld.2.2.2.2.2.2.2.2.1, cell_keep' hb hHeld.2.2.2.2.2.2.2.2.2.1, cell_keep' hb hHeld.2.2.2.2.2.2.2.2.2.2.1, cell_keep' hb hHeld.2.2.2.2.2.2.2.2.2.2.2.1, cell_keep' hb hHeld.2.2.2.2.2.2.2.2.2.2.2.2.1, cell_keep' hb hHeld.2.2.2.2.2.2.2.2.2.2.2.2.2.1, Lib.hid (below_next hHeld.2.2.2.2.2.2.2.2.2.2.2.2.2.2.out hb)⟩
        clear hK K
        try simp only [Act.put, List.setIfInBounds_toArray, List.set_cons_zero, List.set_cons_succ]
        clear hb
        refine wpAnyH_take (i := 10) (oi := ⟨some 130, _, _, _, _, _⟩) (v := ?_) rfl (by kernel_rfl) (by kernel_rfl) (by kernel_rfl) (fun _ _ _ h => h) (Or.inl ⟨by rfl, ?_⟩) (by assumption) ?_
        rotate_left
        · (intro w hSw; (try dsimp only at hSw); go_simp; (try with_reducible rfl))
        try simp only [Act.put, List.setIfInBounds_toArray, List.set_cons_zero, List.set_cons_succ]
        refine wpAnyH_take (i := 11) (oi := ⟨some 131, _, _, _, _, _⟩) (v := ?_) rfl (by kernel_rfl) (by kernel_rfl) (by kernel_rfl) (fun _ _ _ h => h) (Or.inl ⟨by rfl, ?_⟩) (by assumption) ?_
        rotate_left
        · (intro w hSw; (try dsimp only at hSw); go_simp; (try with_reducible rfl))
        try simp only [Act.put, List.setIfInBounds_toArray, List.set_cons_zero, List.set_cons_succ]
        refine wpAnyH_ready (rs := [18]) (by kernel_rfl) (by simp) ?_
        refine AllReadyH.cons (o := ⟨some 138, _, _, _, _, _⟩) rfl (fun K hK => ?_) AllReadyH.nil
        go_simp
        with_reducible refine (KY.out _ hHeld.2.2.2.2.2.2.2.2.2.2.2.2.2.2.out).mono ?_
        rintro e w' ⟨rfl, hb⟩
        go_wp2_with fail
        refine hK.out _ _ ?_ (fun hHeld => ?_)
        · exact ⟨cell_keep' hb hHeld.1, cell_keep' hb hHeld.2.1, cell_keep' hb hHeld.2.2.1, cell_keep' hb hHeld.2.2.2.1, cell_keep' hb hHeld.2.2.2.2.1, cell_keep' hb hHeld.2.2.2.2.2.1, cell_keep' hb hHeld.2.2.2.2.2.2.1, cell_keep' hb hHeld.2.2.2.2.2.2.2.1, cell_keep' hb hHeld.2.2.2.2.2.2.2.2.1, cell_keep' hb hHeld.2.2.2.2.2.2.2.2.2.1, cell_keep' hb hHeld.2.2.2.2.2.2.2.2.2.2.1, cell_keep' hb hHeld.2.2.2.2.2.2.2.2.2.2.2.1, cell_keep' hb hHeld.2.2.2.2.2.2.2.2.2.2.2.2.1, cell_keep' hb hHeld.2.2.2.2.2.2.2.2.2.2.2.2.2.1, Lib.hid (below_next hHeld.2.2.2.2.2.2.2.2.2.2.2.2.2.2.out hb)⟩
        clear hK K
        try simp only [Act.put, List.setIfInBounds_toArray, List.set_cons_zero, List.set_cons_succ]
        clear hb
        refine wpAnyH_take (i := 19) (oi := ⟨some 139, _, _, _, _, _⟩) (v := ?_) rfl (by kernel_rfl) (by kernel_rfl) (by kernel_rfl) (fun _ _ _ h => h) (Or.inl ⟨by rfl, ?_⟩) (by assumption) ?_
        rotate_left
        · (intro w hSw; (try dsimp only at hSw); go_simp; (try with_reducible rfl))
        try simp only [Act.put, List.setIfInBounds_toArray, List.set_cons_zero, List.set_cons_succ]
        refine wpAnyH_take (i := 20) (oi := ⟨some 2, _, _, _, _, _⟩) (v := ?_) rfl (by kernel_rfl) (by kernel_rfl) (by kernel_rfl) (fun _ _ _ h => h) (Or.inl ⟨by rfl, ?_⟩) (by assumption) ?_
        rotate_left
        · (intro w hSw; (try dsimp only at hSw); go_simp; (try with_reducible rfl))
        try simp only [Act.put, List.setIfInBounds_toArray, List.set_cons_zero, List.set_cons_succ]
        refine wpAnyH_done (by kernel_rfl) ?_ _
        have HZ := Lib.hid hHeld.2.2.2.2.2.2.2.2.2.2.2.2.2.2.out
        clear hHeld
        go_wp2_with fail
        go_ret
        exact ⟨rfl, HZ.out⟩

set_option maxRecDepth 100000 in
set_option maxHeartbeats 4000000 in
theorem refExpr_any (e : Tr.E) (a : Value) (w : World) (hbd : BdE e) (hS : SlE w a e.args) (hl : (Sy.text e).length ≤ 1000000000) :
    Calls Tryz.prog 16 #[exprV e a] w fun r w' => r = .returned (.string ⟨(Sy.exprText e).toArray⟩) ∧ Below w.heap.size w w' := by
  obtain ⟨p, c, rfl, _⟩ := hS.form
  obtain ⟨N, hN⟩ : ∃ q, e.args.length = q := ⟨_, rfl⟩
  rw [hN] at hS ⊢
  have KT0 : Hid (Tr.validE e = true → ∀ W, Below w.heap.size w W → Calls Tryz.prog 44 #[exprV e (.slice p N c)] W fun r w' => r = .returned (.string ⟨(Sy.text e).toArray⟩) ∧ Below W.heap.size W w') := fun hv W hb => refText_any e.deep e p N c W (Nat.le_refl _) hv hN (hS.keep hb) hl
  have KV0 : Hid (∀ W, Below w.heap.size w W → Calls Tryz.prog 14 #[exprV e (.slice p N c)] W fun r w' => r = .returned (.bool (Tr.validE e)) ∧ Below W.heap.size W w') := fun W hb => validExprR_any _ e _ W (Nat.le_refl _) hbd (hS.keep hb)
  have hex : Sy.exprText e = if Tr.validE e then Sy.text e else [] := rfl
  obtain ⟨V, hV⟩ : ∃ q, Tr.validE e = q := ⟨_, rfl⟩
  obtain ⟨T, hT⟩ : ∃ q, Sy.text e = q := ⟨_, rfl⟩
  rw [hex, hV, hT]
  rw [hV, hT] at KT0
  rw [hV] at KV0
  clear hex hl hT hV hbd hS hN
  obtain ⟨k, o, i, nm, a1, ls⟩ := e
  have hbx := below_box w (.cells #[.int .i64 k, .int .i64 o, .int .i64 i, .string nm, .bool a1, .slice p N c] 24)
  have hcv := (MapKept.heap_alloc w (.cells #[.int .i64 k, .int .i64 o, .int .i64 i, .string nm, .bool a1, .slice p N c] 24)).1
  obtain ⟨w1, hw1⟩ : ∃ q, q = w.alloc (.cells #[.int .i64 k, .int .i64 o, .int .i64 i, .string nm, .bool a1, .slice p N c] 24) := ⟨_, rfl⟩
  rw [← hw1] at hbx hcv
  unfold exprV at KT0 KV0 ⊢
  simp only [Tr.E.kind, Tr.E.op, Tr.E.int, Tr.E.name, Tr.E.at_] at KT0 KV0 ⊢
  have HW1 := Lib.hid hw1
  have HB1 := Lib.hid hbx
  have HC1 := Lib.hid hcv
  clear hw1 hbx hcv
  have z0 := cell_of_blkP HC1.out (j := 0) (u := .int .i64 k) rfl
  have z1 := cell_of_blkP HC1.out (j := 1) (u := .int .i64 o) rfl
  have z2 := cell_of_blkP HC1.out (j := 2) (u := .int .i64 i) rfl
  have z3 := cell_of_blkP HC1.out (j := 3) (u := .string nm) rfl
  have z4 := cell_of_blkP HC1.out (j := 4) (u := .bool a1) rfl
  have z5 := cell_of_blkP HC1.out (j := 5) (u := .slice p N c) rfl
  cases V
  · go_enter Tryz.func16, Tryz.ntmps16
    go_wp2_with fail
    rw [← HW1.out]
    refine (KV0.out _ HB1.out).mono ?_
    rintro e' w2 ⟨rfl, hb2⟩
    have HZ := Lib.hid (below_next HB1.out hb2)
    clear hb2
    go_wp2_with fail
    go_ret
    exact ⟨rfl, HZ.out⟩
  · go_enter Tryz.func16, Tryz.ntmps16
    go_wp2_with fail
    rw [← HW1.out]
    refine (KV0.out _ HB1.out).mono ?_
    rintro e' w2 ⟨rfl, hb2⟩
    have HC2 := Lib.hid ((hb2.block _ (Array.getElem?_eq_some_iff.1 HC1.out).1).trans HC1.out)
    have HB2 := Lib.hid (below_next HB1.out hb2)
    clear hb2 z0 z1 z2 z3 z4 z5
    have z0 := cell_of_blkP HC2.out (j := 0) (u := .int .i64 k) rfl
    have z1 := cell_of_blkP HC2.out (j := 1) (u := .int .i64 o) rfl
    have z2 := cell_of_blkP HC2.out (j := 2) (u := .int .i64 i) rfl
    have z3 := cell_of_blkP HC2.out (j := 3) (u := .string nm) rfl
    have z4 := cell_of_blkP HC2.out (j := 4) (u := .bool a1) rfl
    have z5 := cell_of_blkP HC2.out (j := 5) (u := .slice p N c) rfl
    go_wp2_with fail
    refine (KT0.out (by trivial) _ HB2.out).mono ?_
    rintro e' w3 ⟨rfl, hb3⟩
    have HZ := Lib.hid (below_next HB2.out hb3)
    clear hb3
    go_wp2_with fail
    go_ret
    exact ⟨rfl, HZ.out⟩
end Go.Proofs.YtlgfickhkejdjaaGreatDoor
