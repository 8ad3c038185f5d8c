/-
  Several texts in one: SyRefSz, SyRefSp.
-/
import Derived.Test.YtdckddkalgnlpaaGreatDoorA14
import Derived.Test.YtdckddkalgnlpaaGreatDoorA33
namespace Go.Proofs.YtdckddkalgnlpaaGreatDoor
open Go.RowKit Go.Maps
set_option maxRecDepth 100000 in
set_option maxHeartbeats 8000000 in
theorem refStmtSize_any : ∀ (d : Nat) (ls : List Tr.S) (p : Option Addr) (N c : Nat) (w : World), Tr.S.deep.deeps ls < d → ls.length = N → SlS w (.slice p N c) ls → Sy.sizeSs ls ≤ 1000000000 →
 Calls Tryz.prog 68 #[.slice p N c] w fun r w' => r = .returned (.int .i64 (Sy.sizeSs ls : Nat)) ∧ Below w.heap.size w w' := by
 intro d
 induction d with
 | zero => intro ls p N c w hd; omega
 | succ d ih =>
   intro ls p N c w hd hN hS hz
   have hn6 : N ≤ 9223372036854775807 := by
    have := hS.len
    rw [hN] at this
    unfold maxLen at this
    exact this
   have hsum := Sy.sizeSs_sum ls
   rw [hN] at hsum
   have HS := Lib.hid hS
   have HN := Lib.hid hN
   have HD := Lib.hid hd
   have HIH := Lib.hid ih
   have HZZ := Lib.hid hz
   have HSUM := Lib.hid hsum
   clear ih hS hN hd hz hsum
   go_enter Tryz.func68, Tryz.ntmps68
   go_wp2_with fail
   go_loopg [3, 4, 5] N (fun g s3 s4 s5 wr => ∃ (j M : Nat), s4 = .int .i64 j ∧ j ≤ N ∧ g = N - j ∧ s3 = .int .i64 M ∧ M = N + ((ls.take j).map Sy.restZ).sum ∧ Hid (Below w.heap.size w wr))
   case atStart => exact ⟨0, N, rfl, Nat.zero_le _, rfl, rfl, rfl, Below.refl _ _⟩
   case round =>
    obtain ⟨j, M, rfl, hj, rfl, rfl, hM, HB⟩ := hrel
    by_cases hlt : j < N
    ·obtain ⟨s, hx⟩ : ∃ x, ls[j]? = some x := ⟨_, List.getElem?_eq_getElem (by rw [HN.out]; exact hlt)⟩
     obtain ⟨b', o', vx, vy, vz, rfl, _, hc, hbd, hsx, hsy, hsz⟩ := HS.out.get hx
     obtain ⟨px, cx, rfl, _⟩ := hsx.form
     obtain ⟨py, cy, rfl, _⟩ := hsy.form
     obtain ⟨pz, cz, rfl, _⟩ := hsz.form
     obtain ⟨XN, hXN⟩ : ∃ q, s.exprs.length = q := ⟨_, rfl⟩
     obtain ⟨YN, hYN⟩ : ∃ q, s.body.length = q := ⟨_, rfl⟩
     obtain ⟨ZN, hZN⟩ : ∃ q, s.els.length = q := ⟨_, rfl⟩
     rw [hXN] at hsx hc
     rw [hYN] at hsy hc
     rw [hZN] at hsz hc
     have hdeep : s.deep ≤ d := by have h1 := Tr.S.deeps_get ls j s hx; have h2 := HD.out; omega
     rw [S_deep_eq] at hdeep
     have htk := sum_take Sy.restZ hx
     have hle := sum_le Sy.restZ ls (j + 1)
     rw [htk] at hle
     have hzz := HSUM.out
     have hzl := HZZ.out
     obtain ⟨Y, hY⟩ : ∃ q, Sy.sizeSs s.body = q := ⟨_, rfl⟩
     obtain ⟨Z, hZ⟩ : ∃ q, Sy.sizeSs s.els = q := ⟨_, rfl⟩
     obtain ⟨X, hX⟩ : ∃ q, Sy.sizeEs s.exprs = q := ⟨_, rfl⟩
     have hr : Sy.restZ s = X + Y + Z := by unfold Sy.restZ; rw [hX, hY, hZ]
     rw [hr] at htk hle
     have HTOT : Hid (M + X + Y + Z ≤ 1000000000) := by show _ ≤ _; omega
     have KY : Hid (∀ W, Below w.heap.size w W → Calls Tryz.prog 68 #[.slice py YN cy] W fun r w' => r = .returned (.int .i64 Y) ∧ Below W.heap.size W w') := by
      intro W hb
      have := HIH.out s.body py YN cy W (by omega) hYN (hsy.keep hb) (by rw [hY]; omega)
      rw [hY] at this
      exact this
     have KZ : Hid (∀ W, Below w.heap.size w W → Calls Tryz.prog 68 #[.slice pz ZN cz] W fun r w' => r = .returned (.int .i64 Z) ∧ Below W.heap.size W w') := by
      intro W hb
      have := HIH.out s.els pz ZN cz W (by omega) hZN (hsz.keep hb) (by rw [hZ]; omega)
      rw [hZ] at this
      exact this
     have KX : Hid (∀ (i : Nat) (x : Tr.E) (pa : Option Addr) (AN ca : Nat), s.exprs[i]? = some x → x.args.length = AN → SlE w (.slice pa AN ca) x.args → Sy.sizeE x ≤ 1000000000 → ∀ W, Below w.heap.size w W → Calls Tryz.prog 36 #[exprV x (.slice pa AN ca)] W fun r w' => r = .returned (.int .i64 (Sy.sizeE x : Nat)) ∧ Below W.heap.size W w') :=
      fun i x pa AN ca hx hAN hsl hz W hb => refExprSize_any x.deep x pa AN ca W (Nat.le_refl _) hAN (hsl.keep hb) hz
     have hxn6 : XN ≤ 9223372036854775807 := by
      have := hsx.len
      rw [hXN] at this
      unfold maxLen at this
      exact this
     have HTK := Lib.hid htk
     have HSX := Lib.hid hsx
     have HXN := Lib.hid hXN
     have HX := Lib.hid hX
     have HM := Lib.hid hM
     have HC := Lib.hid hc
     have b3 : (j : Int) < (N : Int) := by omega
     clear hx hbd hsx hsy hsz hXN hYN hZN hdeep htk hle hzz hzl hY hZ hX hr hM hc
     go_wp2_with fail
     go_loopg [3, 5] XN (fun g s3 s5 wq => ∃ (i K : Nat), s5 = .int .i64 i ∧ i ≤ XN ∧ g = XN - i ∧ s3 = .int .i64 K ∧ K = M + ((s.exprs.take i).map Sy.sizeE).sum ∧ Hid (Below w.heap.size w wq))
     case atStart => exact ⟨0, M, rfl, Nat.zero_le _, rfl, rfl, rfl, HB⟩
     case round =>
      obtain ⟨i, K, rfl, hi, rfl, rfl, hK, HBQ⟩ := hrel
      obtain ⟨x0, x1, x2, x3, x4⟩ := CellsS.keep HC.out HBQ.out
      have hl1 := cell_lt' x0
      have b5 : (0 : Int) ≤ (j : Int) := by omega
      by_cases hli : i < XN
      ·obtain ⟨x, hx⟩ : ∃ x, s.exprs[i]? = some x := ⟨_, List.getElem?_eq_getElem (by rw [HXN.out]; exact hli)⟩
       obtain ⟨b2, o2, pa, AN, ca, e2, hAN, hc2, hsl⟩ := argAt HSX.out hx
       subst e2
       obtain ⟨y0, y1, y2, y3, y4, y5⟩ := hc2.keep HBQ.out
       have hl2 := cell_lt' y0
       have htk := sum_take Sy.sizeE hx
       have hle := sum_le Sy.sizeE s.exprs (i + 1)
       rw [htk] at hle
       have hxx := HX.out
       rw [Sy.sizeEs_sumE] at hxx
       have htt := HTOT.out
       have KA := Lib.hid (KX.out i x pa AN ca hx hAN hsl (by omega))
       unfold exprV at KA
       obtain ⟨V, hV⟩ : ∃ q, Sy.sizeE x = q := ⟨_, rfl⟩
       rw [hV] at KA htk hle
       have bw : IntKind.i64.wrap ((K : Int) + (V : Int)) = (K : Int) + (V : Int) := IntWalk.i64_in _ (by omega)
       have b6 : (i : Int) < (XN : Int) := by omega
       have HTK2 := Lib.hid htk
       have HK := Lib.hid hK
       clear hx hAN hc2 hsl htk hle hxx htt hV hK
       go_wp2_with fail
       refine (KA.out _ HBQ.out).mono ?_
       rintro e' w3 ⟨rfl, hb3⟩
       have HZ := Lib.hid (below_next HBQ.out hb3)
       clear hb3 x0 x1 x2 x3 x4 y0 y1 y2 y3 y4 y5 hl1 hl2
       go_wp2_with fail
       go_roundg (XN - (i + 1))
       case measure => omega
       case rel => exact ⟨i + 1, K + V, by go_num, by omega, rfl, by go_num, by have h1 := HTK2.out; have h2 := HK.out; omega, HZ⟩
      ·obtain rfl : i = XN := by omega
       have hfull : s.exprs.take i = s.exprs := List.take_of_length_le (by rw [HXN.out]; exact Nat.le_refl _)
       rw [hfull, ← Sy.sizeEs_sumE, HX.out] at hK
       subst hK
       have htt := HTOT.out
       have bw1 : IntKind.i64.wrap (((M + X : Nat) : Int) + (Y : Int)) = ((M + X : Nat) : Int) + (Y : Int) := IntWalk.i64_in _ (by omega)
       have bw2 : IntKind.i64.wrap (((M + X : Nat) : Int) + (Y : Int) + (Z : Int)) = ((M + X : Nat) : Int) + (Y : Int) + (Z : Int) := IntWalk.i64_in _ (by omega)
       obtain ⟨Q, hQ⟩ : ∃ q, M + X = q := ⟨_, rfl⟩
       rw [hQ] at bw1 bw2 ⊢
       have HQ := Lib.hid hQ
       clear hfull htt hQ
       go_upto_region 9 with fail
       refine wp_region_held_drew (S := fun W => W.cell? ⟨b', o' + j * 5 + 3, none⟩ = some (.slice py YN cy) ∧ W.cell? ⟨b', o' + j * 5 + 4, none⟩ = some (.slice pz ZN cz) ∧ Hid (Below w.heap.size w W)) (by kernel_rfl) ?_ (fun hHeld => ?_)
       ·exact ⟨x3, x4, Lib.hid (HBQ.out).drew⟩
       clear x3 x4
       refine wpAnyH_take (i := 0) (oi := ⟨some 35, _, _, _, _, _⟩) (v := ?_) rfl (by kernel_rfl) (by kernel_rfl) (by kernel_rfl) (fun _ _ _ h => h) (Or.inl ⟨by rfl, ?_⟩) (by assumption) ?_
       rotate_left
       ·(intro w hSw; (try dsimp only at hSw); go_simp; (try with_reducible rfl))
       try simp only [Act.put, List.setIfInBounds_toArray, List.set_cons_zero, List.set_cons_succ]
       refine wpAnyH_take (i := 1) (oi := ⟨some 36, _, _, _, _, _⟩) (v := ?_) rfl (by kernel_rfl) (by kernel_rfl) (by kernel_rfl) (fun _ _ _ h => h) (Or.inl ⟨by rfl, ?_⟩) (by assumption) ?_
       rotate_left
       ·(intro w hSw; (try dsimp only at hSw); go_simp; (try with_reducible rfl))
       try simp only [Act.put, List.setIfInBounds_toArray, List.set_cons_zero, List.set_cons_succ]
       refine wpAnyH_take (i := 2) (oi := ⟨some 37, _, _, _, _, _⟩) (v := ?_) rfl (by kernel_rfl) (by kernel_rfl) (by kernel_rfl) (fun _ _ _ h => h) (Or.inl ⟨by rfl, ?_⟩) (by assumption) ?_
       rotate_left
       ·(intro w hSw; (try dsimp only at hSw); go_simp; (try with_reducible rfl))
       try simp only [Act.put, List.setIfInBounds_toArray, List.set_cons_zero, List.set_cons_succ]
       refine wpAnyH_take (i := 3) (oi := ⟨some 38, _, _, _, _, _⟩) (v := ?_) rfl (by kernel_rfl) (by kernel_rfl) (by kernel_rfl) (fun _ _ _ h => h) (Or.inl ⟨by rfl, ?_⟩) (by assumption) ?_
       rotate_left
       ·(intro w hSw; (try dsimp only at hSw); go_simp; (try with_reducible rfl))
       try simp only [Act.put, List.setIfInBounds_toArray, List.set_cons_zero, List.set_cons_succ]
       refine wpAnyH_take (i := 4) (oi := ⟨some 39, _, _, _, _, _⟩) (v := ?_) rfl (by kernel_rfl) (by kernel_rfl) (by kernel_rfl) (fun _ _ _ h => h) (Or.inl ⟨by rfl, ?_⟩) (by assumption) ?_
       rotate_left
       ·(intro w hSw; (try dsimp only at hSw); go_simp; (try with_reducible rfl))
       try simp only [Act.put, List.setIfInBounds_toArray, List.set_cons_zero, List.set_cons_succ]
       refine wpAnyH_take (i := 5) (oi := ⟨some 40, _, _, _, _, _⟩) (v := ?_) rfl (by kernel_rfl) (by kernel_rfl) (by kernel_rfl) (fun _ _ _ h => h) (Or.inl ⟨by rfl, ?_⟩) (by assumption) ?_
       rotate_left
       ·(intro w hSw; (try dsimp only at hSw); go_simp; (try with_reducible rfl))
       try simp only [Act.put, List.setIfInBounds_toArray, List.set_cons_zero, List.set_cons_succ]
       refine wpAnyH_take (i := 8) (oi := ⟨some 43, _, _, _, _, _⟩) (v := ?_) rfl (by kernel_rfl) (by kernel_rfl) (by kernel_rfl) (fun _ _ _ h => h) (Or.inl ⟨by rfl, ?_⟩) (by assumption) ?_
       rotate_left
       ·(intro w hSw; (try dsimp only at hSw); go_simp; (try with_reducible rfl))
       try simp only [Act.put, List.setIfInBounds_toArray, List.set_cons_zero, List.set_cons_succ]
       refine wpAnyH_take (i := 9) (oi := ⟨some 44, _, _, _, _, _⟩) (v := ?_) rfl (by kernel_rfl) (by kernel_rfl) (by kernel_rfl) (fun _ _ _ h => h) (Or.inl ⟨by rfl, ?_⟩) (by assumption) ?_
       rotate_left
       ·(intro w hSw; (try dsimp only at hSw); go_simp; (try with_reducible rfl))
       try simp only [Act.put, List.setIfInBounds_toArray, List.set_cons_zero, List.set_cons_succ]
       refine wpAnyH_take (i := 10) (oi := ⟨some 45, _, _, _, _, _⟩) (v := ?_) rfl (by kernel_rfl) (by kernel_rfl) (by kernel_rfl) (fun _ _ _ h => h) (Or.inl ⟨by rfl, ?_⟩) (by assumption) ?_
       rotate_left
       ·(intro w hSw; (try dsimp only at hSw); go_simp; (try with_reducible rfl))
       try simp only [Act.put, List.setIfInBounds_toArray, List.set_cons_zero, List.set_cons_succ]
       refine wpAnyH_take (i := 11) (oi := ⟨some 46, _, _, _, _, _⟩) (v := ?_) rfl (by kernel_rfl) (by kernel_rfl) (by kernel_rfl) (fun _ _ _ h => h) (Or.inl ⟨by rfl, ?_⟩) (by assumption) ?_
       rotate_left
       ·(intro w hSw; (try dsimp only at hSw); go_simp; (try with_reducible rfl))
       try simp only [Act.put, List.setIfInBounds_toArray, List.set_cons_zero, List.set_cons_succ]
       refine wpAnyH_take (i := 12) (oi := ⟨some 47, _, _, _, _, _⟩) (v := ?_) rfl (by kernel_rfl) (by kernel_rfl) (by kernel_rfl) (fun _ _ _ h => h) (Or.inl ⟨by rfl, ?_⟩) (by assumption) ?_
       rotate_left
       ·(intro w hSw; (try dsimp only at hSw); go_simp; (try with_reducible rfl))
       try simp only [Act.put, List.setIfInBounds_toArray, List.set_cons_zero, List.set_cons_succ]
       refine wpAnyH_ready (rs := [6]) (by kernel_rfl) (by simp) ?_
       refine AllReadyH.cons (o := ⟨some 41, _, _, _, _, _⟩) rfl (fun K hK => ?_) AllReadyH.nil
       go_simp
       with_reducible refine (KY.out _ hHeld.2.2.out).mono ?_
       rintro e w' ⟨rfl, hb⟩
       go_wp2_with fail
       refine hK.out _ _ ?_ (fun hHeld => ?_)
       ·exact ⟨cell_keep' hb hHeld.1, cell_keep' hb hHeld.2.1, Lib.hid (below_next hHeld.2.2.out hb)⟩
       clear hK K
       try simp only [Act.put, List.setIfInBounds_toArray, List.set_cons_zero, List.set_cons_succ]
       clear hb
       refine wpAnyH_take (i := 7) (oi := ⟨some 42, _, _, _, _, _⟩) (v := ?_) rfl (by kernel_rfl) (by kernel_rfl) (by kernel_rfl) (fun _ _ _ h => h) (Or.inl ⟨by rfl, ?_⟩) (by assumption) ?_
       rotate_left
       ·(intro w hSw; (try dsimp only at hSw); go_simp; (try with_reducible rfl))
       try simp only [Act.put, List.setIfInBounds_toArray, List.set_cons_zero, List.set_cons_succ]
       refine wpAnyH_ready (rs := [13]) (by kernel_rfl) (by simp) ?_
       refine AllReadyH.cons (o := ⟨some 48, _, _, _, _, _⟩) rfl (fun K hK => ?_) AllReadyH.nil
       go_simp
       with_reducible refine (KZ.out _ hHeld.2.2.out).mono ?_
       rintro e w' ⟨rfl, hb⟩
       go_wp2_with fail
       refine hK.out _ _ ?_ (fun hHeld => ?_)
       ·exact ⟨cell_keep' hb hHeld.1, cell_keep' hb hHeld.2.1, Lib.hid (below_next hHeld.2.2.out hb)⟩
       clear hK K
       try simp only [Act.put, List.setIfInBounds_toArray, List.set_cons_zero, List.set_cons_succ]
       clear hb
       refine wpAnyH_take (i := 14) (oi := ⟨some 49, _, _, _, _, _⟩) (v := ?_) rfl (by kernel_rfl) (by kernel_rfl) (by kernel_rfl) (fun _ _ _ h => h) (Or.inl ⟨by rfl, ?_⟩) (by assumption) ?_
       rotate_left
       ·(intro w hSw; (try dsimp only at hSw); go_simp; (try with_reducible rfl))
       try simp only [Act.put, List.setIfInBounds_toArray, List.set_cons_zero, List.set_cons_succ]
       refine wpAnyH_take (i := 15) (oi := ⟨some 3, _, _, _, _, _⟩) (v := ?_) rfl (by kernel_rfl) (by kernel_rfl) (by kernel_rfl) (fun _ _ _ h => h) (Or.inl ⟨by rfl, ?_⟩) (by assumption) ?_
       rotate_left
       ·(intro w hSw; (try dsimp only at hSw); go_simp; (try with_reducible rfl))
       try simp only [Act.put, List.setIfInBounds_toArray, List.set_cons_zero, List.set_cons_succ]
       refine wpAnyH_done (by kernel_rfl) ?_ _
       have HZ := Lib.hid hHeld.2.2.out
       clear hHeld
       go_wp2_with fail
       go_roundg (N - (j + 1))
       case measure => omega
       case rel => exact ⟨j + 1, Q + Y + Z, by go_num, by omega, rfl, by go_num, by have h1 := HTK.out; have h2 := HM.out; have h3 := HQ.out; omega, HZ⟩
    ·obtain rfl : j = N := by omega
     have hfull : ls.take j = ls := List.take_of_length_le (by rw [HN.out]; exact Nat.le_refl _)
     rw [hfull, ← HSUM.out] at hM
     subst hM
     clear hfull
     go_wp2_with fail
     go_ret
     exact ⟨rfl, HB.out⟩
end Go.Proofs.YtdckddkalgnlpaaGreatDoor
namespace Go.Proofs.YtdckddkalgnlpaaGreatDoor
open Go.RowKit Go.Maps
set_option maxRecDepth 100000 in
set_option maxHeartbeats 8000000 in
theorem refSize_any (v : Value) (cs : List Tr.C) (w : World) (hS : SlC w v cs) (hz : Sy.sizeP cs ≤ 1000000000) :
 Calls Tryz.prog 29 #[.agg #[v]] w fun r w' => r = .returned (.int .i64 (Sy.sizeP cs : Nat)) ∧ Below w.heap.size w w' := by
 obtain ⟨p, c, rfl⟩ := hS.form
 have hsum := Sy.sizeP_sum cs
 obtain ⟨N, hN⟩ : ∃ q, cs.length = q := ⟨_, rfl⟩
 rw [hN] at hS hsum ⊢
 have hn6 : N ≤ 1000000000 := by omega
 have hB := below_box w (.cells #[.slice p N c] 25)
 have hcv := (MapKept.heap_alloc w (.cells #[.slice p N c] 25)).1
 obtain ⟨w1, hw1⟩ : ∃ q, q = w.alloc (.cells #[.slice p N c] 25) := ⟨_, rfl⟩
 obtain ⟨BX, hBX⟩ : ∃ q, w.heap.size = q := ⟨_, rfl⟩
 rw [← hw1] at hB hcv
 rw [hBX] at hcv
 have HW1 := Lib.hid hw1
 have HBX := Lib.hid hBX
 have HB1 := Lib.hid hB
 have HS := Lib.hid hS
 have HN := Lib.hid hN
 have HZZ := Lib.hid hz
 have HSUM := Lib.hid hsum
 have HE0 : Hid (∀ W, Below w1.heap.size w1 W → W.cell? ⟨BX, 0, none⟩ = some (.slice p N c)) := fun W hb => cell_keep' hb (cell_of_blkP hcv (j := 0) (u := .slice p N c) rfl)
 have hltB : BX < w1.heap.size := lt_of_block hcv
 have e0 := HE0.out w1 (Below.refl _ _)
 have HLT := Lib.hid hltB
 clear hS hN hz hsum hw1 hB hcv hBX hltB
 go_enter Tryz.func29, Tryz.ntmps29
 go_wp2_with fail
 rw [← HW1.out, HBX.out]
 clear e0 HW1
 go_loopg [3, 4, 5] N (fun g s3 s4 s5 wr => ∃ (j M : Nat), s4 = .int .i64 j ∧ j ≤ N ∧ g = N - j ∧ s3 = .int .i64 M ∧ M = N + ((cs.take j).map Sy.restC).sum ∧ Hid (Below w1.heap.size w1 wr) ∧ Hid (Below w.heap.size w wr))
 case atStart => exact ⟨0, N, rfl, Nat.zero_le _, rfl, rfl, rfl, Below.refl _ _, HB1⟩
 case round =>
  obtain ⟨j, M, rfl, hj, rfl, rfl, hM, HB', HB⟩ := hrel
  have e0 := HE0.out wr HB'.out
  have hl0 := cell_lt' e0
  by_cases hlt : j < N
  ·obtain ⟨s, hs⟩ : ∃ s, cs[j]? = some s := ⟨_, List.getElem?_eq_getElem (by rw [HN.out]; exact hlt)⟩
   obtain ⟨cb, co, vx, vy, rfl, _, hc, _, hfx, hmx⟩ := HS.out.get hs
   obtain ⟨fp, fc, rfl⟩ := hfx.form
   obtain ⟨mp, mc, rfl⟩ := hmx.form
   obtain ⟨FN, hFN⟩ : ∃ q, s.fields.length = q := ⟨_, rfl⟩
   obtain ⟨MN, hMN⟩ : ∃ q, s.methods.length = q := ⟨_, rfl⟩
   rw [hFN] at hfx hc
   rw [hMN] at hmx hc
   have HCC : Hid (∀ W, Below w.heap.size w W → W.cell? ⟨cb, co + j * 4 + 2, none⟩ = some (.slice fp FN fc) ∧ W.cell? ⟨cb, co + j * 4 + 3, none⟩ = some (.slice mp MN mc)) := fun W hb => ⟨cell_keep' hb hc.2.2.1, cell_keep' hb hc.2.2.2⟩
   obtain ⟨x2, x3⟩ := HCC.out wr HB.out
   have htk := sum_take Sy.restC hs
   have hle := sum_le Sy.restC cs (j + 1)
   rw [htk] at hle
   obtain ⟨R, hR⟩ : ∃ q, (s.methods.map Sy.restM).sum = q := ⟨_, rfl⟩
   have hr : Sy.restC s = FN + MN + R := by unfold Sy.restC; rw [hFN, hMN, hR]
   rw [hr] at htk hle
   have hzz := HSUM.out
   have hzl := HZZ.out
   have HTOT : Hid (M + FN + MN + R ≤ 1000000000) := by show _ ≤ _; omega
   have hmn6 : MN ≤ 1000000000 := by have := HTOT.out; omega
   have HTK := Lib.hid htk
   have b3 : (j : Int) < (N : Int) := by omega
   have b5 : (0 : Int) ≤ (j : Int) := by omega
   have bw1 : IntKind.i64.wrap ((M : Int) + (FN : Int)) = (M : Int) + (FN : Int) := IntWalk.i64_in _ (by omega)
   have bw2 : IntKind.i64.wrap ((M : Int) + (FN : Int) + (MN : Int)) = (M : Int) + (FN : Int) + (MN : Int) := IntWalk.i64_in _ (by omega)
   have HM := Lib.hid hM
   have HMX := Lib.hid hmx
   have HMN := Lib.hid hMN
   have HR := Lib.hid hR
   have hl1 := cell_lt' x2
   clear hs hc hfx hmx hFN hMN htk hle hzz hzl hR hr hM
   go_upto_region 5 with fail
   refine wp_region_held_drew (S := fun W => W.cell? ⟨BX, 0, none⟩ = some (.slice (some ⟨cb, co, none⟩) N c) ∧ W.cell? ⟨cb, co + j * 4 + 2, none⟩ = some (.slice fp FN fc) ∧ W.cell? ⟨cb, co + j * 4 + 3, none⟩ = some (.slice mp MN mc) ∧ Hid (Below w.heap.size w W)) (by kernel_rfl) ?_ (fun hHeld => ?_)
   ·exact ⟨e0, x2, x3, Lib.hid (HB.out).drew⟩
   clear e0 x2 x3
   refine wpAnyH_take (i := 0) (oi := ⟨some 16, _, _, _, _, _⟩) (v := ?_) rfl (by kernel_rfl) (by kernel_rfl) (by kernel_rfl) (fun _ _ _ h => h) (Or.inl ⟨by rfl, ?_⟩) (by assumption) ?_
   rotate_left
   ·(intro w hSw; (try dsimp only at hSw); go_simp; (try with_reducible rfl))
   try simp only [Act.put, List.setIfInBounds_toArray, List.set_cons_zero, List.set_cons_succ]
   refine wpAnyH_take (i := 1) (oi := ⟨some 17, _, _, _, _, _⟩) (v := ?_) rfl (by kernel_rfl) (by kernel_rfl) (by kernel_rfl) (fun _ _ _ h => h) (Or.inl ⟨by rfl, ?_⟩) (by assumption) ?_
   rotate_left
   ·(intro w hSw; (try dsimp only at hSw); go_simp; (try with_reducible rfl))
   try simp only [Act.put, List.setIfInBounds_toArray, List.set_cons_zero, List.set_cons_succ]
   refine wpAnyH_take (i := 2) (oi := ⟨some 18, _, _, _, _, _⟩) (v := ?_) rfl (by kernel_rfl) (by kernel_rfl) (by kernel_rfl) (fun _ _ _ h => h) (Or.inl ⟨by rfl, ?_⟩) (by assumption) ?_
   rotate_left
   ·(intro w hSw; (try dsimp only at hSw); go_simp; (try with_reducible rfl))
   try simp only [Act.put, List.setIfInBounds_toArray, List.set_cons_zero, List.set_cons_succ]
   refine wpAnyH_take (i := 3) (oi := ⟨some 19, _, _, _, _, _⟩) (v := ?_) rfl (by kernel_rfl) (by kernel_rfl) (by kernel_rfl) (fun _ _ _ h => h) (Or.inl ⟨by rfl, ?_⟩) (by assumption) ?_
   rotate_left
   ·(intro w hSw; (try dsimp only at hSw); go_simp; (try with_reducible rfl))
   try simp only [Act.put, List.setIfInBounds_toArray, List.set_cons_zero, List.set_cons_succ]
   refine wpAnyH_take (i := 4) (oi := ⟨some 20, _, _, _, _, _⟩) (v := ?_) rfl (by kernel_rfl) (by kernel_rfl) (by kernel_rfl) (fun _ _ _ h => h) (Or.inl ⟨by rfl, ?_⟩) (by assumption) ?_
   rotate_left
   ·(intro w hSw; (try dsimp only at hSw); go_simp; (try with_reducible rfl))
   try simp only [Act.put, List.setIfInBounds_toArray, List.set_cons_zero, List.set_cons_succ]
   refine wpAnyH_take (i := 5) (oi := ⟨some 21, _, _, _, _, _⟩) (v := ?_) rfl (by kernel_rfl) (by kernel_rfl) (by kernel_rfl) (fun _ _ _ h => h) (Or.inl ⟨by rfl, ?_⟩) (by assumption) ?_
   rotate_left
   ·(intro w hSw; (try dsimp only at hSw); go_simp; (try with_reducible rfl))
   try simp only [Act.put, List.setIfInBounds_toArray, List.set_cons_zero, List.set_cons_succ]
   refine wpAnyH_take (i := 6) (oi := ⟨some 22, _, _, _, _, _⟩) (v := ?_) rfl (by kernel_rfl) (by kernel_rfl) (by kernel_rfl) (fun _ _ _ h => h) (Or.inl ⟨by rfl, ?_⟩) (by assumption) ?_
   rotate_left
   ·(intro w hSw; (try dsimp only at hSw); go_simp; (try with_reducible rfl))
   try simp only [Act.put, List.setIfInBounds_toArray, List.set_cons_zero, List.set_cons_succ]
   refine wpAnyH_take (i := 7) (oi := ⟨some 23, _, _, _, _, _⟩) (v := ?_) rfl (by kernel_rfl) (by kernel_rfl) (by kernel_rfl) (fun _ _ _ h => h) (Or.inl ⟨by rfl, ?_⟩) (by assumption) ?_
   rotate_left
   ·(intro w hSw; (try dsimp only at hSw); go_simp; (try with_reducible rfl))
   try simp only [Act.put, List.setIfInBounds_toArray, List.set_cons_zero, List.set_cons_succ]
   refine wpAnyH_take (i := 8) (oi := ⟨some 24, _, _, _, _, _⟩) (v := ?_) rfl (by kernel_rfl) (by kernel_rfl) (by kernel_rfl) (fun _ _ _ h => h) (Or.inl ⟨by rfl, ?_⟩) (by assumption) ?_
   rotate_left
   ·(intro w hSw; (try dsimp only at hSw); go_simp; (try with_reducible rfl))
   try simp only [Act.put, List.setIfInBounds_toArray, List.set_cons_zero, List.set_cons_succ]
   refine wpAnyH_take (i := 9) (oi := ⟨some 25, _, _, _, _, _⟩) (v := ?_) rfl (by kernel_rfl) (by kernel_rfl) (by kernel_rfl) (fun _ _ _ h => h) (Or.inl ⟨by rfl, ?_⟩) (by assumption) ?_
   rotate_left
   ·(intro w hSw; (try dsimp only at hSw); go_simp; (try with_reducible rfl))
   try simp only [Act.put, List.setIfInBounds_toArray, List.set_cons_zero, List.set_cons_succ]
   refine wpAnyH_take (i := 10) (oi := ⟨some 26, _, _, _, _, _⟩) (v := ?_) rfl (by kernel_rfl) (by kernel_rfl) (by kernel_rfl) (fun _ _ _ h => h) (Or.inl ⟨by rfl, ?_⟩) (by assumption) ?_
   rotate_left
   ·(intro w hSw; (try dsimp only at hSw); go_simp; (try with_reducible rfl))
   try simp only [Act.put, List.setIfInBounds_toArray, List.set_cons_zero, List.set_cons_succ]
   refine wpAnyH_take (i := 11) (oi := ⟨some 27, _, _, _, _, _⟩) (v := ?_) rfl (by kernel_rfl) (by kernel_rfl) (by kernel_rfl) (fun _ _ _ h => h) (Or.inl ⟨by rfl, ?_⟩) (by assumption) ?_
   rotate_left
   ·(intro w hSw; (try dsimp only at hSw); go_simp; (try with_reducible rfl))
   try simp only [Act.put, List.setIfInBounds_toArray, List.set_cons_zero, List.set_cons_succ]
   refine wpAnyH_take (i := 12) (oi := ⟨some 28, _, _, _, _, _⟩) (v := ?_) rfl (by kernel_rfl) (by kernel_rfl) (by kernel_rfl) (fun _ _ _ h => h) (Or.inl ⟨by rfl, ?_⟩) (by assumption) ?_
   rotate_left
   ·(intro w hSw; (try dsimp only at hSw); go_simp; (try with_reducible rfl))
   try simp only [Act.put, List.setIfInBounds_toArray, List.set_cons_zero, List.set_cons_succ]
   refine wpAnyH_take (i := 13) (oi := ⟨some 29, _, _, _, _, _⟩) (v := ?_) rfl (by kernel_rfl) (by kernel_rfl) (by kernel_rfl) (fun _ _ _ h => h) (Or.inl ⟨by rfl, ?_⟩) (by assumption) ?_
   rotate_left
   ·(intro w hSw; (try dsimp only at hSw); go_simp; (try with_reducible rfl))
   try simp only [Act.put, List.setIfInBounds_toArray, List.set_cons_zero, List.set_cons_succ]
   refine wpAnyH_take (i := 14) (oi := ⟨some 30, _, _, _, _, _⟩) (v := ?_) rfl (by kernel_rfl) (by kernel_rfl) (by kernel_rfl) (fun _ _ _ h => h) (Or.inl ⟨by rfl, ?_⟩) (by assumption) ?_
   rotate_left
   ·(intro w hSw; (try dsimp only at hSw); go_simp; (try with_reducible rfl))
   try simp only [Act.put, List.setIfInBounds_toArray, List.set_cons_zero, List.set_cons_succ]
   refine wpAnyH_take (i := 15) (oi := ⟨some 31, _, _, _, _, _⟩) (v := ?_) rfl (by kernel_rfl) (by kernel_rfl) (by kernel_rfl) (fun _ _ _ h => h) (Or.inl ⟨by rfl, ?_⟩) (by assumption) ?_
   rotate_left
   ·(intro w hSw; (try dsimp only at hSw); go_simp; (try with_reducible rfl))
   try simp only [Act.put, List.setIfInBounds_toArray, List.set_cons_zero, List.set_cons_succ]
   refine wpAnyH_take (i := 16) (oi := ⟨some 32, _, _, _, _, _⟩) (v := ?_) rfl (by kernel_rfl) (by kernel_rfl) (by kernel_rfl) (fun _ _ _ h => h) (Or.inl ⟨by rfl, ?_⟩) (by assumption) ?_
   rotate_left
   ·(intro w hSw; (try dsimp only at hSw); go_simp; (try with_reducible rfl))
   try simp only [Act.put, List.setIfInBounds_toArray, List.set_cons_zero, List.set_cons_succ]
   refine wpAnyH_take (i := 17) (oi := ⟨some 3, _, _, _, _, _⟩) (v := ?_) rfl (by kernel_rfl) (by kernel_rfl) (by kernel_rfl) (fun _ _ _ h => h) (Or.inl ⟨by rfl, ?_⟩) (by assumption) ?_
   rotate_left
   ·(intro w hSw; (try dsimp only at hSw); go_simp; (try with_reducible rfl))
   try simp only [Act.put, List.setIfInBounds_toArray, List.set_cons_zero, List.set_cons_succ]
   refine wpAnyH_done (by kernel_rfl) ?_ _
   have HZ := Lib.hid hHeld.2.2.2.out
   clear hHeld
   go_wp2_with fail
   obtain ⟨M1, hM1⟩ : ∃ q : Nat, q = M + FN + MN := ⟨_, rfl⟩
   have hM2 : (M : Int) + (FN : Int) + (MN : Int) = (M1 : Int) := by omega
   rw [hM2]
   have HM1 := Lib.hid hM1
   have HB2 := HB'
   clear hM1 hM2 bw1 bw2 hl0 hl1
   skip
   go_loopg [3, 5] MN (fun g s3 s5 wq => ∃ (i K : Nat), s5 = .int .i64 i ∧ i ≤ MN ∧ g = MN - i ∧ s3 = .int .i64 K ∧ K = M1 + ((s.methods.take i).map Sy.restM).sum ∧ Hid (Below w1.heap.size w1 wq) ∧ Hid (Below w.heap.size w wq))
   case atStart => exact ⟨0, M1, rfl, Nat.zero_le _, rfl, rfl, rfl, HB'.out.drew, HZ⟩
   case round =>
    obtain ⟨i, K, rfl, hi, rfl, rfl, hK, HBQ', HBQ⟩ := hrel
    have e0 := HE0.out _ HBQ'.out
    have hl0 := cell_lt' e0
    obtain ⟨x2, x3⟩ := HCC.out _ HBQ.out
    have hl1 := cell_lt' x3
    by_cases hlt2 : i < MN
    ·obtain ⟨m, hm⟩ : ∃ m, s.methods[i]? = some m := ⟨_, List.getElem?_eq_getElem (by rw [HMN.out]; exact hlt2)⟩
     obtain ⟨mb, mo, vx, vy, rfl, _, hc, _, hpx, hsy⟩ := HMX.out.get hm
     obtain ⟨pp, pc, rfl⟩ := hpx.form
     obtain ⟨py, cy, rfl, _⟩ := hsy.form
     obtain ⟨PN, hPN⟩ : ∃ q, m.params.length = q := ⟨_, rfl⟩
     obtain ⟨YN, hYN⟩ : ∃ q, m.body.length = q := ⟨_, rfl⟩
     rw [hPN] at hpx hc
     rw [hYN] at hsy hc
     obtain ⟨m0, m1, m2⟩ := CellsM.keep hc HBQ.out
     have hl2 := cell_lt' m0
     have htk := sum_take Sy.restM hm
     have hle := sum_le Sy.restM s.methods (i + 1)
     rw [htk] at hle
     obtain ⟨Y, hY⟩ : ∃ q, Sy.sizeSs m.body = q := ⟨_, rfl⟩
     have hr : Sy.restM m = PN + Y := by unfold Sy.restM; rw [hPN, hY]
     rw [hr] at htk hle
     have hz1 := HTOT.out
     have hz2 := HR.out
     have hz3 := HM1.out
     have KY : Hid (∀ W, Below w.heap.size w W → Calls Tryz.prog 68 #[.slice py YN cy] W fun r w' => r = .returned (.int .i64 Y) ∧ Below W.heap.size W w') := by
      intro W hb
      have := refStmtSize_any _ m.body py YN cy W (Nat.lt_succ_self _) hYN (hsy.keep hb) (by rw [hY]; omega)
      rw [hY] at this
      exact this
     have HTK2 := Lib.hid htk
     have b6 : (i : Int) < (MN : Int) := by omega
     have b7 : (0 : Int) ≤ (i : Int) := by omega
     have bw1 : IntKind.i64.wrap ((K : Int) + (PN : Int)) = (K : Int) + (PN : Int) := IntWalk.i64_in _ (by omega)
     have bw2 : IntKind.i64.wrap ((K : Int) + (PN : Int) + (Y : Int)) = (K : Int) + (PN : Int) + (Y : Int) := IntWalk.i64_in _ (by omega)
     have HK := Lib.hid hK
     obtain ⟨wv, hwv⟩ : ∃ q, q = wr := ⟨_, rfl⟩
     rw [← hwv] at HBQ HBQ' e0 x2 x3 m0 m1 m2 ⊢
     have HZ' : Hid (∀ W, Below wv.heap.size wv W → Below w1.heap.size w1 W) := fun W hb => below_next HBQ'.out hb
     clear hm hc hpx hsy hPN hYN htk hle hY hr hz1 hz2 hz3 hK hwv
     go_upto_region 9 with fail
     refine wp_region_held_drew (S := fun W => W.cell? ⟨BX, 0, none⟩ = some (.slice (some ⟨cb, co, none⟩) N c) ∧ W.cell? ⟨cb, co + j * 4 + 3, none⟩ = some (.slice (some ⟨mb, mo, none⟩) MN mc) ∧ W.cell? ⟨mb, mo + i * 3 + 1, none⟩ = some (.slice pp PN pc) ∧ W.cell? ⟨mb, mo + i * 3 + 2, none⟩ = some (.slice py YN cy) ∧ Hid (Below wv.heap.size wv W)) (by kernel_rfl) ?_ (fun hHeld => ?_)
     ·exact ⟨e0, x3, m1, m2, Lib.hid (Below.refl _ _).drew⟩
     clear e0 x3 m1 m2
     refine wpAnyH_take (i := 0) (oi := ⟨some 44, _, _, _, _, _⟩) (v := ?_) rfl (by kernel_rfl) (by kernel_rfl) (by kernel_rfl) (fun _ _ _ h => h) (Or.inl ⟨by rfl, ?_⟩) (by assumption) ?_
     rotate_left
     ·(intro w hSw; (try dsimp only at hSw); go_simp; (try with_reducible rfl))
     try simp only [Act.put, List.setIfInBounds_toArray, List.set_cons_zero, List.set_cons_succ]
     refine wpAnyH_take (i := 1) (oi := ⟨some 45, _, _, _, _, _⟩) (v := ?_) rfl (by kernel_rfl) (by kernel_rfl) (by kernel_rfl) (fun _ _ _ h => h) (Or.inl ⟨by rfl, ?_⟩) (by assumption) ?_
     rotate_left
     ·(intro w hSw; (try dsimp only at hSw); go_simp; (try with_reducible rfl))
     try simp only [Act.put, List.setIfInBounds_toArray, List.set_cons_zero, List.set_cons_succ]
     refine wpAnyH_take (i := 2) (oi := ⟨some 46, _, _, _, _, _⟩) (v := ?_) rfl (by kernel_rfl) (by kernel_rfl) (by kernel_rfl) (fun _ _ _ h => h) (Or.inl ⟨by rfl, ?_⟩) (by assumption) ?_
     rotate_left
     ·(intro w hSw; (try dsimp only at hSw); go_simp; (try with_reducible rfl))
     try simp only [Act.put, List.setIfInBounds_toArray, List.set_cons_zero, List.set_cons_succ]
     refine wpAnyH_take (i := 3) (oi := ⟨some 47, _, _, _, _, _⟩) (v := ?_) rfl (by kernel_rfl) (by kernel_rfl) (by kernel_rfl) (fun _ _ _ h => h) (Or.inl ⟨by rfl, ?_⟩) (by assumption) ?_
     rotate_left
     ·(intro w hSw; (try dsimp only at hSw); go_simp; (try with_reducible rfl))
     try simp only [Act.put, List.setIfInBounds_toArray, List.set_cons_zero, List.set_cons_succ]
     refine wpAnyH_take (i := 4) (oi := ⟨some 48, _, _, _, _, _⟩) (v := ?_) rfl (by kernel_rfl) (by kernel_rfl) (by kernel_rfl) (fun _ _ _ h => h) (Or.inl ⟨by rfl, ?_⟩) (by assumption) ?_
     rotate_left
     ·(intro w hSw; (try dsimp only at hSw); go_simp; (try with_reducible rfl))
     try simp only [Act.put, List.setIfInBounds_toArray, List.set_cons_zero, List.set_cons_succ]
     refine wpAnyH_take (i := 5) (oi := ⟨some 49, _, _, _, _, _⟩) (v := ?_) rfl (by kernel_rfl) (by kernel_rfl) (by kernel_rfl) (fun _ _ _ h => h) (Or.inl ⟨by rfl, ?_⟩) (by assumption) ?_
     rotate_left
     ·(intro w hSw; (try dsimp only at hSw); go_simp; (try with_reducible rfl))
     try simp only [Act.put, List.setIfInBounds_toArray, List.set_cons_zero, List.set_cons_succ]
     refine wpAnyH_take (i := 6) (oi := ⟨some 50, _, _, _, _, _⟩) (v := ?_) rfl (by kernel_rfl) (by kernel_rfl) (by kernel_rfl) (fun _ _ _ h => h) (Or.inl ⟨by rfl, ?_⟩) (by assumption) ?_
     rotate_left
     ·(intro w hSw; (try dsimp only at hSw); go_simp; (try with_reducible rfl))
     try simp only [Act.put, List.setIfInBounds_toArray, List.set_cons_zero, List.set_cons_succ]
     refine wpAnyH_take (i := 7) (oi := ⟨some 51, _, _, _, _, _⟩) (v := ?_) rfl (by kernel_rfl) (by kernel_rfl) (by kernel_rfl) (fun _ _ _ h => h) (Or.inl ⟨by rfl, ?_⟩) (by assumption) ?_
     rotate_left
     ·(intro w hSw; (try dsimp only at hSw); go_simp; (try with_reducible rfl))
     try simp only [Act.put, List.setIfInBounds_toArray, List.set_cons_zero, List.set_cons_succ]
     refine wpAnyH_take (i := 8) (oi := ⟨some 52, _, _, _, _, _⟩) (v := ?_) rfl (by kernel_rfl) (by kernel_rfl) (by kernel_rfl) (fun _ _ _ h => h) (Or.inl ⟨by rfl, ?_⟩) (by assumption) ?_
     rotate_left
     ·(intro w hSw; (try dsimp only at hSw); go_simp; (try with_reducible rfl))
     try simp only [Act.put, List.setIfInBounds_toArray, List.set_cons_zero, List.set_cons_succ]
     refine wpAnyH_take (i := 9) (oi := ⟨some 53, _, _, _, _, _⟩) (v := ?_) rfl (by kernel_rfl) (by kernel_rfl) (by kernel_rfl) (fun _ _ _ h => h) (Or.inl ⟨by rfl, ?_⟩) (by assumption) ?_
     rotate_left
     ·(intro w hSw; (try dsimp only at hSw); go_simp; (try with_reducible rfl))
     try simp only [Act.put, List.setIfInBounds_toArray, List.set_cons_zero, List.set_cons_succ]
     refine wpAnyH_take (i := 10) (oi := ⟨some 54, _, _, _, _, _⟩) (v := ?_) rfl (by kernel_rfl) (by kernel_rfl) (by kernel_rfl) (fun _ _ _ h => h) (Or.inl ⟨by rfl, ?_⟩) (by assumption) ?_
     rotate_left
     ·(intro w hSw; (try dsimp only at hSw); go_simp; (try with_reducible rfl))
     try simp only [Act.put, List.setIfInBounds_toArray, List.set_cons_zero, List.set_cons_succ]
     refine wpAnyH_take (i := 11) (oi := ⟨some 55, _, _, _, _, _⟩) (v := ?_) rfl (by kernel_rfl) (by kernel_rfl) (by kernel_rfl) (fun _ _ _ h => h) (Or.inl ⟨by rfl, ?_⟩) (by assumption) ?_
     rotate_left
     ·(intro w hSw; (try dsimp only at hSw); go_simp; (try with_reducible rfl))
     try simp only [Act.put, List.setIfInBounds_toArray, List.set_cons_zero, List.set_cons_succ]
     refine wpAnyH_take (i := 12) (oi := ⟨some 56, _, _, _, _, _⟩) (v := ?_) rfl (by kernel_rfl) (by kernel_rfl) (by kernel_rfl) (fun _ _ _ h => h) (Or.inl ⟨by rfl, ?_⟩) (by assumption) ?_
     rotate_left
     ·(intro w hSw; (try dsimp only at hSw); go_simp; (try with_reducible rfl))
     try simp only [Act.put, List.setIfInBounds_toArray, List.set_cons_zero, List.set_cons_succ]
     refine wpAnyH_take (i := 13) (oi := ⟨some 57, _, _, _, _, _⟩) (v := ?_) rfl (by kernel_rfl) (by kernel_rfl) (by kernel_rfl) (fun _ _ _ h => h) (Or.inl ⟨by rfl, ?_⟩) (by assumption) ?_
     rotate_left
     ·(intro w hSw; (try dsimp only at hSw); go_simp; (try with_reducible rfl))
     try simp only [Act.put, List.setIfInBounds_toArray, List.set_cons_zero, List.set_cons_succ]
     refine wpAnyH_take (i := 14) (oi := ⟨some 58, _, _, _, _, _⟩) (v := ?_) rfl (by kernel_rfl) (by kernel_rfl) (by kernel_rfl) (fun _ _ _ h => h) (Or.inl ⟨by rfl, ?_⟩) (by assumption) ?_
     rotate_left
     ·(intro w hSw; (try dsimp only at hSw); go_simp; (try with_reducible rfl))
     try simp only [Act.put, List.setIfInBounds_toArray, List.set_cons_zero, List.set_cons_succ]
     refine wpAnyH_take (i := 15) (oi := ⟨some 59, _, _, _, _, _⟩) (v := ?_) rfl (by kernel_rfl) (by kernel_rfl) (by kernel_rfl) (fun _ _ _ h => h) (Or.inl ⟨by rfl, ?_⟩) (by assumption) ?_
     rotate_left
     ·(intro w hSw; (try dsimp only at hSw); go_simp; (try with_reducible rfl))
     try simp only [Act.put, List.setIfInBounds_toArray, List.set_cons_zero, List.set_cons_succ]
     refine wpAnyH_take (i := 16) (oi := ⟨some 60, _, _, _, _, _⟩) (v := ?_) rfl (by kernel_rfl) (by kernel_rfl) (by kernel_rfl) (fun _ _ _ h => h) (Or.inl ⟨by rfl, ?_⟩) (by assumption) ?_
     rotate_left
     ·(intro w hSw; (try dsimp only at hSw); go_simp; (try with_reducible rfl))
     try simp only [Act.put, List.setIfInBounds_toArray, List.set_cons_zero, List.set_cons_succ]
     refine wpAnyH_take (i := 17) (oi := ⟨some 61, _, _, _, _, _⟩) (v := ?_) rfl (by kernel_rfl) (by kernel_rfl) (by kernel_rfl) (fun _ _ _ h => h) (Or.inl ⟨by rfl, ?_⟩) (by assumption) ?_
     rotate_left
     ·(intro w hSw; (try dsimp only at hSw); go_simp; (try with_reducible rfl))
     try simp only [Act.put, List.setIfInBounds_toArray, List.set_cons_zero, List.set_cons_succ]
     refine wpAnyH_take (i := 18) (oi := ⟨some 62, _, _, _, _, _⟩) (v := ?_) rfl (by kernel_rfl) (by kernel_rfl) (by kernel_rfl) (fun _ _ _ h => h) (Or.inl ⟨by rfl, ?_⟩) (by assumption) ?_
     rotate_left
     ·(intro w hSw; (try dsimp only at hSw); go_simp; (try with_reducible rfl))
     try simp only [Act.put, List.setIfInBounds_toArray, List.set_cons_zero, List.set_cons_succ]
     refine wpAnyH_take (i := 19) (oi := ⟨some 63, _, _, _, _, _⟩) (v := ?_) rfl (by kernel_rfl) (by kernel_rfl) (by kernel_rfl) (fun _ _ _ h => h) (Or.inl ⟨by rfl, ?_⟩) (by assumption) ?_
     rotate_left
     ·(intro w hSw; (try dsimp only at hSw); go_simp; (try with_reducible rfl))
     try simp only [Act.put, List.setIfInBounds_toArray, List.set_cons_zero, List.set_cons_succ]
     refine wpAnyH_take (i := 20) (oi := ⟨some 64, _, _, _, _, _⟩) (v := ?_) rfl (by kernel_rfl) (by kernel_rfl) (by kernel_rfl) (fun _ _ _ h => h) (Or.inl ⟨by rfl, ?_⟩) (by assumption) ?_
     rotate_left
     ·(intro w hSw; (try dsimp only at hSw); go_simp; (try with_reducible rfl))
     try simp only [Act.put, List.setIfInBounds_toArray, List.set_cons_zero, List.set_cons_succ]
     refine wpAnyH_take (i := 21) (oi := ⟨some 65, _, _, _, _, _⟩) (v := ?_) rfl (by kernel_rfl) (by kernel_rfl) (by kernel_rfl) (fun _ _ _ h => h) (Or.inl ⟨by rfl, ?_⟩) (by assumption) ?_
     rotate_left
     ·(intro w hSw; (try dsimp only at hSw); go_simp; (try with_reducible rfl))
     try simp only [Act.put, List.setIfInBounds_toArray, List.set_cons_zero, List.set_cons_succ]
     refine wpAnyH_take (i := 22) (oi := ⟨some 66, _, _, _, _, _⟩) (v := ?_) rfl (by kernel_rfl) (by kernel_rfl) (by kernel_rfl) (fun _ _ _ h => h) (Or.inl ⟨by rfl, ?_⟩) (by assumption) ?_
     rotate_left
     ·(intro w hSw; (try dsimp only at hSw); go_simp; (try with_reducible rfl))
     try simp only [Act.put, List.setIfInBounds_toArray, List.set_cons_zero, List.set_cons_succ]
     refine wpAnyH_ready (rs := [23]) (by kernel_rfl) (by simp) ?_
     refine AllReadyH.cons (o := ⟨some 67, _, _, _, _, _⟩) rfl (fun K hK => ?_) AllReadyH.nil
     go_simp
     with_reducible refine (KY.out _ (HBQ.out.trans (hHeld.2.2.2.2.out.mono HBQ.out.size))).mono ?_
     rintro e w' ⟨rfl, hb⟩
     go_wp2_with fail
     refine hK.out _ _ ?_ (fun hHeld => ?_)
     ·exact ⟨cell_keep' hb hHeld.1, cell_keep' hb hHeld.2.1, cell_keep' hb hHeld.2.2.1, cell_keep' hb hHeld.2.2.2.1, Lib.hid (below_next hHeld.2.2.2.2.out hb)⟩
     clear hK K
     try simp only [Act.put, List.setIfInBounds_toArray, List.set_cons_zero, List.set_cons_succ]
     clear hb
     refine wpAnyH_take (i := 24) (oi := ⟨some 68, _, _, _, _, _⟩) (v := ?_) rfl (by kernel_rfl) (by kernel_rfl) (by kernel_rfl) (fun _ _ _ h => h) (Or.inl ⟨by rfl, ?_⟩) (by assumption) ?_
     rotate_left
     ·(intro w hSw; (try dsimp only at hSw); go_simp; (try with_reducible rfl))
     try simp only [Act.put, List.setIfInBounds_toArray, List.set_cons_zero, List.set_cons_succ]
     refine wpAnyH_take (i := 25) (oi := ⟨some 3, _, _, _, _, _⟩) (v := ?_) rfl (by kernel_rfl) (by kernel_rfl) (by kernel_rfl) (fun _ _ _ h => h) (Or.inl ⟨by rfl, ?_⟩) (by assumption) ?_
     rotate_left
     ·(intro w hSw; (try dsimp only at hSw); go_simp; (try with_reducible rfl))
     try simp only [Act.put, List.setIfInBounds_toArray, List.set_cons_zero, List.set_cons_succ]
     refine wpAnyH_done (by kernel_rfl) ?_ _
     have HZ := Lib.hid hHeld.2.2.2.2.out
     clear hHeld
     go_wp2_with fail
     go_roundg (MN - (i + 1))
     case measure => omega
     case rel => exact ⟨i + 1, K + (PN + Y), by go_num, by omega, rfl, by go_num, by have h1 := HTK2.out; have h2 := HK.out; omega, HZ'.out _ HZ.out, HBQ.out.trans (HZ.out.mono HBQ.out.size)⟩
    ·obtain rfl : i = MN := by omega
     have hfull : s.methods.take i = s.methods := List.take_of_length_le (by rw [HMN.out]; exact Nat.le_refl _)
     rw [hfull, HR.out] at hK
     clear hfull
     go_wp2_with fail
     go_roundg (N - (j + 1))
     case measure => omega
     case rel => exact ⟨j + 1, K, by go_num, by omega, rfl, rfl, by have h1 := HTK.out; have h2 := HM.out; have h3 := HM1.out; omega, HBQ', HBQ⟩
  ·obtain rfl : j = N := by omega
   have hfull : cs.take j = cs := List.take_of_length_le (by rw [HN.out]; exact Nat.le_refl _)
   rw [hfull, ← HSUM.out] at hM
   subst hM
   clear hfull
   go_wp2_with fail
   go_ret
   exact ⟨rfl, HB.out⟩
end Go.Proofs.YtdckddkalgnlpaaGreatDoor
