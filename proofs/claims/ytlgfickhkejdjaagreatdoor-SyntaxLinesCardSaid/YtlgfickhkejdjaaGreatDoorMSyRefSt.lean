/-
  The reference's lines of statements: stmt, stmts, walked.
-/
import Derived.Test.YtlgfickhkejdjaaGreatDoorMSyRefLn
import Derived.Test.YtlgfickhkejdjaaGreatDoorMSyD
namespace Go.Proofs.YtlgfickhkejdjaaGreatDoor
open Go.RowKit Go.Maps

/-- the contract of stmts at statements of a depth -/
def RssC (d : Nat) : Prop := ∀ (ls : List Tr.S) (p : Option Addr) (N c deep : Nat) (W : World), Tr.S.deep.deeps ls ≤ d → Tr.validSs ls = true → ls.length = N → SlS W (.slice p N c) ls → deep + Tr.S.deep.deeps ls ≤ 1000000 → (Sy.stmts deep ls).length ≤ 1000000000 →
  Calls Tryz.prog 60 #[.int .i64 deep, .slice p N c] W fun r w' => r = .returned (.string ⟨(Sy.stmts deep ls).toArray⟩) ∧ Below W.heap.size W w'
theorem okS_nums {k : Int} {nm : ByteArray} {n nb ne : Nat} (h : Tr.okS k nm n nb ne = true) :
    (k = 0 ∧ n = 1) ∨ (k = 1 ∧ n = 1) ∨ (k = 2 ∧ n = 2) ∨ (k = 3 ∧ n = 1) ∨ (k = 4 ∧ n = 1) ∨ (k = 5 ∧ 1 ≤ n) ∨ (k = 6 ∧ n = 1) ∨ (k = 7 ∧ n = 2) ∨ (k = 8 ∧ n = 2) ∨ (k = 9 ∧ n = 0) := by
  by_cases hk : k < 0 ∨ 9 < k
  · rw [okS_other hk] at h; cases h
  · have h0 : k = 0 ∨ k = 1 ∨ k = 2 ∨ k = 3 ∨ k = 4 ∨ k = 5 ∨ k = 6 ∨ k = 7 ∨ k = 8 ∨ k = 9 := by omega
    rcases h0 with rfl | rfl | rfl | rfl | rfl | rfl | rfl | rfl | rfl | rfl
    · rw [okS_0, Bool.and_eq_true, decide_eq_true_eq] at h; omega
    · rw [okS_1, Bool.and_eq_true, decide_eq_true_eq] at h; omega
    · rw [okS_2, Bool.and_eq_true, decide_eq_true_eq] at h; omega
    · rw [okS_3, decide_eq_true_eq] at h; omega
    · rw [okS_4, decide_eq_true_eq] at h; omega
    · rw [okS_5, Bool.and_eq_true, decide_eq_true_eq] at h; omega
    · rw [okS_6, decide_eq_true_eq] at h; omega
    · rw [okS_7, decide_eq_true_eq] at h; omega
    · rw [okS_8, Bool.and_eq_true, decide_eq_true_eq] at h; omega
    · rw [okS_9, decide_eq_true_eq] at h; omega

set_option maxRecDepth 100000 in
set_option maxHeartbeats 20000000 in
theorem refStmt_of {d : Nat} (hC : RssC d) (s : Tr.S) (px py pz : Option Addr) (XN cx YN cy ZN cz deep : Nat) (w : World) (hd : s.deep ≤ d + 1) (hv : Tr.validS s = true) (hXN : s.exprs.length = XN) (hYN : s.body.length = YN) (hZN : s.els.length = ZN)
    (hx : SlE w (.slice px XN cx) s.exprs) (hy : SlS w (.slice py YN cy) s.body) (hz : SlS w (.slice pz ZN cz) s.els) (hdd : deep + s.deep ≤ 1000000) (hl : (Sy.stmt deep s).length ≤ 1000000000) :
    Calls Tryz.prog 97 #[.int .i64 deep, stmtV s (.slice px XN cx) (.slice py YN cy) (.slice pz ZN cz)] w fun r w' => r = .returned (.string ⟨(Sy.stmt deep s).toArray⟩) ∧ Below w.heap.size w w' := by
  obtain ⟨k, nm, xs, bs, ls⟩ := s
  simp only [Tr.S.exprs, Tr.S.body, Tr.S.els] at hXN hYN hZN hx hy hz
  rw [Tr.validS, Bool.and_eq_true, Bool.and_eq_true, Bool.and_eq_true, Tr.validEs_all, List.all_eq_true, hXN] at hv
  obtain ⟨⟨⟨hvx, hok⟩, hvb⟩, hvl⟩ := hv
  have hf := okS_nums hok
  have hdb : Tr.S.deep.deeps bs ≤ d := Tr.S.deep_body hd
  have hdl : Tr.S.deep.deeps ls ≤ d := Tr.S.deep_els hd
  have hde := S_deep_eq (.mk k nm xs bs ls)
  have hde : (Tr.S.mk k nm xs bs ls).deep = 1 + max (Tr.S.deep.deeps bs) (Tr.S.deep.deeps ls) := hde
  rw [Sy.stmt, Sy.texts_map, hZN] at hl ⊢
  have hbx := below_box w (.cells #[.int .i64 k, .string nm, .slice px XN cx, .slice py YN cy, .slice pz ZN cz] 46)
  have hcv := (MapKept.heap_alloc w (.cells #[.int .i64 k, .string nm, .slice px XN cx, .slice py YN cy, .slice pz ZN cz] 46)).1
  obtain ⟨w1, hw1⟩ : ∃ q, q = w.alloc (.cells #[.int .i64 k, .string nm, .slice px XN cx, .slice py YN cy, .slice pz ZN cz] 46) := ⟨_, rfl⟩
  rw [← hw1] at hbx hcv
  have HW1 := Lib.hid hw1
  have HB1 := Lib.hid hbx
  have HC1 := Lib.hid hcv
  have HS := Lib.hid hx
  have HV := Lib.hid hvx
  have HN := Lib.hid hXN
  have KT0 : Hid (∀ (x : Tr.E) (pa : Option Addr) (AN ca : Nat), x ∈ xs → x.args.length = AN → SlE w (.slice pa AN ca) x.args → (Sy.text x).length ≤ 1000000000 → ∀ W, Below w.heap.size w W → Calls Tryz.prog 44 #[exprV x (.slice pa AN ca)] W fun r w' => r = .returned (.string ⟨(Sy.text x).toArray⟩) ∧ Below W.heap.size W w') :=
    fun x pa AN ca hm hAN hsl hl W hb => refText_any x.deep x pa AN ca W (Nat.le_refl _) (hvx x hm) hAN (hsl.keep hb) hl
  have KI0 : Hid (∀ (x : Tr.E) (pa : Option Addr) (AN ca req : Nat), x ∈ xs → x.args.length = AN → SlE w (.slice pa AN ca) x.args → (Sy.text x).length ≤ 1000000000 → ∀ W, Below w.heap.size w W → Calls Tryz.prog 80 #[exprV x (.slice pa AN ca), .int .i64 req] W fun r w' => r = .returned (.string ⟨(Sy.par req (Sy.level x, Sy.text x)).toArray⟩) ∧ Below W.heap.size W w') :=
    fun x pa AN ca req hm hAN hsl hl W hb => refIn_of (refText_any x.deep) x pa AN ca req W (Nat.le_refl _) (hvx x hm) hAN (hsl.keep hb) hl
  have KB : Hid ((Sy.stmts (deep + 1) bs).length ≤ 1000000000 → ∀ W, Below w.heap.size w W → Calls Tryz.prog 60 #[.int .i64 ((deep : Int) + 1), .slice py YN cy] W fun r w' => r = .returned (.string ⟨(Sy.stmts (deep + 1) bs).toArray⟩) ∧ Below W.heap.size W w') :=
    fun hl W hb => hC bs py YN cy (deep + 1) W hdb hvb hYN (hy.keep hb) (by omega) hl
  have KE : Hid ((Sy.stmts (deep + 1) ls).length ≤ 1000000000 → ∀ W, Below w.heap.size w W → Calls Tryz.prog 60 #[.int .i64 ((deep : Int) + 1), .slice pz ZN cz] W fun r w' => r = .returned (.string ⟨(Sy.stmts (deep + 1) ls).toArray⟩) ∧ Below W.heap.size W w') :=
    fun hl W hb => hC ls pz ZN cz (deep + 1) W hdl hvl hZN (hz.keep hb) (by omega) hl
  have KL0 : Hid (∀ (s : ByteArray) (t : List UInt8), s.size ≤ 4000000000 → s.data.toList = t → ∀ W, Calls Tryz.prog 59 #[.int .i64 deep, .string s] W fun r w' => r = .returned (.string ⟨(Sy.line deep t).toArray⟩) ∧ Below W.heap.size W w') :=
    fun s t hs ht W => by rw [← ht]; exact refLine_any deep s W (by omega) hs
  have HDD : Hid (deep ≤ 1000000) := by show _ ≤ _; omega
  have hnml : nm.data.toList.length = nm.size := data_len nm
  unfold stmtV
  simp only [Tr.S.kind, Tr.S.name]
  clear hw1 hbx hcv hx hvx hXN hC hd hok hvb hvl hdb hdl hde hYN hZN hy hz hdd
  rcases hf with ⟨rfl, rfl⟩ | ⟨rfl, rfl⟩ | ⟨rfl, rfl⟩ | ⟨rfl, rfl⟩ | ⟨rfl, rfl⟩ | ⟨rfl, hn1⟩ | ⟨rfl, rfl⟩ | ⟨rfl, rfl⟩ | ⟨rfl, rfl⟩ | ⟨rfl, rfl⟩
  · obtain ⟨x, rfl⟩ : ∃ x, xs = [x] := by
      match xs, HN.out with
      | [x], _ => exact ⟨x, rfl⟩
    change (Sy.line deep (([108, 101, 116, 32] ++ nm.data.toList ++ [32, 61, 32] ++ Sy.text x) ++ [59])).length ≤ _ at hl
    show Calls _ _ _ _ (fun r w' => r = .returned (.string ⟨(Sy.line deep (([108, 101, 116, 32] ++ nm.data.toList ++ [32, 61, 32] ++ Sy.text x) ++ [59])).toArray⟩) ∧ _)
    simp only [List.length_append, List.length_cons, List.length_nil, Sy.line_len] at hl
    obtain ⟨b', o', pa, AN, ca, rfl, hAN, hc, hsl⟩ := argAt HS.out (j := 0) (x := x) rfl
    obtain ⟨y0, y1, y2, y3, y4, y5⟩ := hc.keep HB1.out
    simp only [Nat.zero_mul, Nat.add_zero] at y0 y1 y2 y3 y4 y5
    have KA := Lib.hid (KT0.out x pa AN ca (by simp) hAN hsl (by omega))
    unfold exprV at KA
    have KL := Lib.hid (KL0.out (⟨#[108, 101, 116, 32]⟩ ++ nm ++ ⟨#[32, 61, 32]⟩ ++ ⟨((Sy.text x)).toArray⟩ ++ ⟨#[59]⟩) ([108, 101, 116, 32] ++ nm.data.toList ++ [32, 61, 32] ++ (Sy.text x) ++ [59]) (by simp only [ByteArray.size_append]; simp only [mk_size]; first | (simp; omega) | omega) (by rw [app_list, app_list, app_list, app_list]))
    have HT : Hid ((⟨(Sy.line deep (([108, 101, 116, 32] ++ nm.data.toList ++ [32, 61, 32] ++ Sy.text x) ++ [59])).toArray⟩ : ByteArray) = ⟨(Sy.line deep ([108, 101, 116, 32] ++ nm.data.toList ++ [32, 61, 32] ++ (Sy.text x) ++ [59])).toArray⟩) := by show _ = _; first | rfl | (rw [List.append_assoc]; rfl)
    rw [← HT.out] at KL
    clear HT
    obtain ⟨A, hA⟩ : ∃ A : ByteArray, ⟨(Sy.text x).toArray⟩ = A := ⟨_, rfl⟩
    have hAl : A.size ≤ 1000000000 := by rw [← hA]; show (Sy.text x).length ≤ _; omega
    rw [hA] at KA KL
    obtain ⟨R, hR⟩ : ∃ A : ByteArray, ⟨(Sy.line deep (([108, 101, 116, 32] ++ nm.data.toList ++ [32, 61, 32] ++ Sy.text x) ++ [59])).toArray⟩ = A := ⟨_, rfl⟩
    rw [hR] at KL ⊢
    have k1 : ¬ 9223372036854775807 < 4 + nm.size := by omega
    have k2 : ¬ 9223372036854775807 < 4 + nm.size + 3 := by omega
    have k3 : ¬ 9223372036854775807 < 4 + nm.size + 3 + A.size := by omega
    have k4 : ¬ 9223372036854775807 < 4 + nm.size + 3 + A.size + 1 := by omega
    have z0 := cell_of_blkP HC1.out (j := 0) (u := .int .i64 0) rfl
    have z1 := cell_of_blkP HC1.out (j := 1) (u := .string nm) rfl
    have z2 := cell_of_blkP HC1.out (j := 2) (u := .slice (some ⟨b', o', none⟩) 1 cx) rfl
    have hl1 := cell_lt' z0
    have hl2 := cell_lt' y0
    clear hl hR hAN hc hsl hnml hA hAl
    go_enter Tryz.func97, Tryz.ntmps97
    go_upto_region 3 with fail
    rw [← HW1.out]
    clear HW1
    refine wp_region_held_drew (S := fun W => W.cell? ⟨w.heap.size, 1, none⟩ = some (.string nm) ∧ W.cell? ⟨w.heap.size, 2, none⟩ = some (.slice (some ⟨b', o', none⟩) 1 cx) ∧ W.cell? ⟨b', o', none⟩ = some (.int .i64 x.kind) ∧ W.cell? ⟨b', o' + 1, none⟩ = some (.int .i64 x.op) ∧ W.cell? ⟨b', o' + 2, none⟩ = some (.int .i64 x.int) ∧ W.cell? ⟨b', o' + 3, none⟩ = some (.string x.name) ∧ W.cell? ⟨b', o' + 4, none⟩ = some (.bool x.at_) ∧ W.cell? ⟨b', o' + 5, none⟩ = some (.slice pa AN ca) ∧ Hid (Below w.heap.size w W)) (by kernel_rfl) ?_ (fun hHeld => ?_)
    · exact ⟨z1, z2, y0, y1, y2, y3, y4, y5, Lib.hid (HB1.out).drew⟩
    clear z1 z2 y0 y1 y2 y3 y4 y5
    refine wpAnyH_take (i := 0) (oi := ⟨some 10, _, _, _, _, _⟩) (v := ?_) rfl (by kernel_rfl) (by kernel_rfl) (by kernel_rfl) (fun _ _ _ h => h) (Or.inl ⟨by rfl, ?_⟩) (by assumption) ?_
    rotate_left
    · (intro w hSw; (try dsimp only at hSw); go_simp; (try with_reducible rfl))
    try simp only [Act.put, List.setIfInBounds_toArray, List.set_cons_zero, List.set_cons_succ]
    refine wpAnyH_take (i := 1) (oi := ⟨some 11, _, _, _, _, _⟩) (v := ?_) rfl (by kernel_rfl) (by kernel_rfl) (by kernel_rfl) (fun _ _ _ h => h) (Or.inl ⟨by rfl, ?_⟩) (by assumption) ?_
    rotate_left
    · (intro w hSw; (try dsimp only at hSw); go_simp; (try with_reducible rfl))
    try simp only [Act.put, List.setIfInBounds_toArray, List.set_cons_zero, List.set_cons_succ]
    refine wpAnyH_take (i := 2) (oi := ⟨some 12, _, _, _, _, _⟩) (v := ?_) rfl (by kernel_rfl) (by kernel_rfl) (by kernel_rfl) (fun _ _ _ h => h) (Or.inl ⟨by rfl, ?_⟩) (by assumption) ?_
    rotate_left
    · (intro w hSw; (try dsimp only at hSw); go_simp; (try with_reducible rfl))
    try simp only [Act.put, List.setIfInBounds_toArray, List.set_cons_zero, List.set_cons_succ]
    refine wpAnyH_take (i := 3) (oi := ⟨some 13, _, _, _, _, _⟩) (v := ?_) rfl (by kernel_rfl) (by kernel_rfl) (by kernel_rfl) (fun _ _ _ h => h) (Or.inl ⟨by rfl, ?_⟩) (by assumption) ?_
    rotate_left
    · (intro w hSw; (try dsimp only at hSw); go_simp; (try with_reducible rfl))
    try simp only [Act.put, List.setIfInBounds_toArray, List.set_cons_zero, List.set_cons_succ]
    refine wpAnyH_take (i := 4) (oi := ⟨some 14, _, _, _, _, _⟩) (v := ?_) rfl (by kernel_rfl) (by kernel_rfl) (by kernel_rfl) (fun _ _ _ h => h) (Or.inl ⟨by rfl, ?_⟩) (by assumption) ?_
    rotate_left
    · (intro w hSw; (try dsimp only at hSw); go_simp; (try with_reducible rfl))
    try simp only [Act.put, List.setIfInBounds_toArray, List.set_cons_zero, List.set_cons_succ]
    refine wpAnyH_take (i := 5) (oi := ⟨some 15, _, _, _, _, _⟩) (v := ?_) rfl (by kernel_rfl) (by kernel_rfl) (by kernel_rfl) (fun _ _ _ h => h) (Or.inl ⟨by rfl, ?_⟩) (by assumption) ?_
    rotate_left
    · (intro w hSw; (try dsimp only at hSw); go_simp; (try with_reducible rfl))
    try simp only [Act.put, List.setIfInBounds_toArray, List.set_cons_zero, List.set_cons_succ]
    refine wpAnyH_take (i := 6) (oi := ⟨some 16, _, _, _, _, _⟩) (v := ?_) rfl (by kernel_rfl) (by kernel_rfl) (by kernel_rfl) (fun _ _ _ h => h) (Or.inl ⟨by rfl, ?_⟩) (by assumption) ?_
    rotate_left
    · (intro w hSw; (try dsimp only at hSw); go_simp; (try with_reducible rfl))
    try simp only [Act.put, List.setIfInBounds_toArray, List.set_cons_zero, List.set_cons_succ]
    refine wpAnyH_take (i := 7) (oi := ⟨some 17, _, _, _, _, _⟩) (v := ?_) rfl (by kernel_rfl) (by kernel_rfl) (by kernel_rfl) (fun _ _ _ h => h) (Or.inl ⟨by rfl, ?_⟩) (by assumption) ?_
    rotate_left
    · (intro w hSw; (try dsimp only at hSw); go_simp; (try with_reducible rfl))
    try simp only [Act.put, List.setIfInBounds_toArray, List.set_cons_zero, List.set_cons_succ]
    refine wpAnyH_take (i := 8) (oi := ⟨some 18, _, _, _, _, _⟩) (v := ?_) rfl (by kernel_rfl) (by kernel_rfl) (by kernel_rfl) (fun _ _ _ h => h) (Or.inl ⟨by rfl, ?_⟩) (by assumption) ?_
    rotate_left
    · (intro w hSw; (try dsimp only at hSw); go_simp; (try with_reducible rfl))
    try simp only [Act.put, List.setIfInBounds_toArray, List.set_cons_zero, List.set_cons_succ]
    refine wpAnyH_ready (rs := [9]) (by kernel_rfl) (by simp) ?_
    refine AllReadyH.cons (o := ⟨some 19, _, _, _, _, _⟩) rfl (fun K hK => ?_) AllReadyH.nil
    go_simp
    with_reducible refine (KA.out _ hHeld.2.2.2.2.2.2.2.2.out).mono ?_
    rintro e w' ⟨rfl, hb⟩
    go_wp2_with fail
    refine hK.out _ _ ?_ (fun hHeld => ?_)
    · exact ⟨cell_keep' hb hHeld.1, cell_keep' hb hHeld.2.1, cell_keep' hb hHeld.2.2.1, cell_keep' hb hHeld.2.2.2.1, cell_keep' hb hHeld.2.2.2.2.1, cell_keep' hb hHeld.2.2.2.2.2.1, cell_keep' hb hHeld.2.2.2.2.2.2.1, cell_keep' hb hHeld.2.2.2.2.2.2.2.1, Lib.hid (below_next hHeld.2.2.2.2.2.2.2.2.out hb)⟩
    clear hK K
    try simp only [Act.put, List.setIfInBounds_toArray, List.set_cons_zero, List.set_cons_succ]
    clear hb
    refine wpAnyH_take (i := 10) (oi := ⟨some 20, _, _, _, _, _⟩) (v := ?_) rfl (by kernel_rfl) (by kernel_rfl) (by kernel_rfl) (fun _ _ _ h => h) (Or.inl ⟨by rfl, ?_⟩) (by assumption) ?_
    rotate_left
    · (intro w hSw; (try dsimp only at hSw); go_simp; (try with_reducible rfl))
    try simp only [Act.put, List.setIfInBounds_toArray, List.set_cons_zero, List.set_cons_succ]
    refine wpAnyH_take (i := 11) (oi := ⟨some 21, _, _, _, _, _⟩) (v := ?_) rfl (by kernel_rfl) (by kernel_rfl) (by kernel_rfl) (fun _ _ _ h => h) (Or.inl ⟨by rfl, ?_⟩) (by assumption) ?_
    rotate_left
    · (intro w hSw; (try dsimp only at hSw); go_simp; (try with_reducible rfl))
    try simp only [Act.put, List.setIfInBounds_toArray, List.set_cons_zero, List.set_cons_succ]
    refine wpAnyH_ready (rs := [12]) (by kernel_rfl) (by simp) ?_
    refine AllReadyH.cons (o := ⟨some 22, _, _, _, _, _⟩) rfl (fun K hK => ?_) AllReadyH.nil
    go_simp
    with_reducible refine (KL.out _).mono ?_
    rintro e w' ⟨rfl, hb⟩
    go_wp2_with fail
    refine hK.out _ _ ?_ (fun hHeld => ?_)
    · exact ⟨cell_keep' hb hHeld.1, cell_keep' hb hHeld.2.1, cell_keep' hb hHeld.2.2.1, cell_keep' hb hHeld.2.2.2.1, cell_keep' hb hHeld.2.2.2.2.1, cell_keep' hb hHeld.2.2.2.2.2.1, cell_keep' hb hHeld.2.2.2.2.2.2.1, cell_keep' hb hHeld.2.2.2.2.2.2.2.1, Lib.hid (below_next hHeld.2.2.2.2.2.2.2.2.out hb)⟩
    clear hK K
    try simp only [Act.put, List.setIfInBounds_toArray, List.set_cons_zero, List.set_cons_succ]
    clear hb
    refine wpAnyH_take (i := 13) (oi := ⟨some 4, _, _, _, _, _⟩) (v := ?_) rfl (by kernel_rfl) (by kernel_rfl) (by kernel_rfl) (fun _ _ _ h => h) (Or.inl ⟨by rfl, ?_⟩) (by assumption) ?_
    rotate_left
    · (intro w hSw; (try dsimp only at hSw); go_simp; (try with_reducible rfl))
    try simp only [Act.put, List.setIfInBounds_toArray, List.set_cons_zero, List.set_cons_succ]
    refine wpAnyH_done (by kernel_rfl) ?_ _
    have HZ := Lib.hid hHeld.2.2.2.2.2.2.2.2.out
    clear hHeld
    go_wp2_with fail
    go_ret
    exact ⟨rfl, HZ.out⟩
  · obtain ⟨x, rfl⟩ : ∃ x, xs = [x] := by
      match xs, HN.out with
      | [x], _ => exact ⟨x, rfl⟩
    change (Sy.line deep ((nm.data.toList ++ [32, 61, 32] ++ Sy.text x) ++ [59])).length ≤ _ at hl
    show Calls _ _ _ _ (fun r w' => r = .returned (.string ⟨(Sy.line deep ((nm.data.toList ++ [32, 61, 32] ++ Sy.text x) ++ [59])).toArray⟩) ∧ _)
    simp only [List.length_append, List.length_cons, List.length_nil, Sy.line_len] at hl
    obtain ⟨b', o', pa, AN, ca, rfl, hAN, hc, hsl⟩ := argAt HS.out (j := 0) (x := x) rfl
    obtain ⟨y0, y1, y2, y3, y4, y5⟩ := hc.keep HB1.out
    simp only [Nat.zero_mul, Nat.add_zero] at y0 y1 y2 y3 y4 y5
    have KA := Lib.hid (KT0.out x pa AN ca (by simp) hAN hsl (by omega))
    unfold exprV at KA
    have KL := Lib.hid (KL0.out (nm ++ ⟨#[32, 61, 32]⟩ ++ ⟨((Sy.text x)).toArray⟩ ++ ⟨#[59]⟩) (nm.data.toList ++ [32, 61, 32] ++ (Sy.text x) ++ [59]) (by simp only [ByteArray.size_append]; simp only [mk_size]; first | (simp; omega) | omega) (by rw [app_list, app_list, app_list]))
    have HT : Hid ((⟨(Sy.line deep ((nm.data.toList ++ [32, 61, 32] ++ Sy.text x) ++ [59])).toArray⟩ : ByteArray) = ⟨(Sy.line deep (nm.data.toList ++ [32, 61, 32] ++ (Sy.text x) ++ [59])).toArray⟩) := by show _ = _; first | rfl | (rw [List.append_assoc]; rfl)
    rw [← HT.out] at KL
    clear HT
    obtain ⟨A, hA⟩ : ∃ A : ByteArray, ⟨(Sy.text x).toArray⟩ = A := ⟨_, rfl⟩
    have hAl : A.size ≤ 1000000000 := by rw [← hA]; show (Sy.text x).length ≤ _; omega
    rw [hA] at KA KL
    obtain ⟨R, hR⟩ : ∃ A : ByteArray, ⟨(Sy.line deep ((nm.data.toList ++ [32, 61, 32] ++ Sy.text x) ++ [59])).toArray⟩ = A := ⟨_, rfl⟩
    rw [hR] at KL ⊢
    have k1 : ¬ 9223372036854775807 < nm.size + 3 := by omega
    have k2 : ¬ 9223372036854775807 < nm.size + 3 + A.size := by omega
    have k3 : ¬ 9223372036854775807 < nm.size + 3 + A.size + 1 := by omega
    have z0 := cell_of_blkP HC1.out (j := 0) (u := .int .i64 1) rfl
    have z1 := cell_of_blkP HC1.out (j := 1) (u := .string nm) rfl
    have z2 := cell_of_blkP HC1.out (j := 2) (u := .slice (some ⟨b', o', none⟩) 1 cx) rfl
    have hl1 := cell_lt' z0
    have hl2 := cell_lt' y0
    clear hl hR hAN hc hsl hnml hA hAl
    go_enter Tryz.func97, Tryz.ntmps97
    go_upto_region 5 with fail
    rw [← HW1.out]
    clear HW1
    refine wp_region_held_drew (S := fun W => W.cell? ⟨w.heap.size, 1, none⟩ = some (.string nm) ∧ W.cell? ⟨w.heap.size, 2, none⟩ = some (.slice (some ⟨b', o', none⟩) 1 cx) ∧ W.cell? ⟨b', o', none⟩ = some (.int .i64 x.kind) ∧ W.cell? ⟨b', o' + 1, none⟩ = some (.int .i64 x.op) ∧ W.cell? ⟨b', o' + 2, none⟩ = some (.int .i64 x.int) ∧ W.cell? ⟨b', o' + 3, none⟩ = some (.string x.name) ∧ W.cell? ⟨b', o' + 4, none⟩ = some (.bool x.at_) ∧ W.cell? ⟨b', o' + 5, none⟩ = some (.slice pa AN ca) ∧ Hid (Below w.heap.size w W)) (by kernel_rfl) ?_ (fun hHeld => ?_)
    · exact ⟨z1, z2, y0, y1, y2, y3, y4, y5, Lib.hid (HB1.out).drew⟩
    clear z1 z2 y0 y1 y2 y3 y4 y5
    refine wpAnyH_take (i := 0) (oi := ⟨some 25, _, _, _, _, _⟩) (v := ?_) rfl (by kernel_rfl) (by kernel_rfl) (by kernel_rfl) (fun _ _ _ h => h) (Or.inl ⟨by rfl, ?_⟩) (by assumption) ?_
    rotate_left
    · (intro w hSw; (try dsimp only at hSw); go_simp; (try with_reducible rfl))
    try simp only [Act.put, List.setIfInBounds_toArray, List.set_cons_zero, List.set_cons_succ]
    refine wpAnyH_take (i := 1) (oi := ⟨some 26, _, _, _, _, _⟩) (v := ?_) rfl (by kernel_rfl) (by kernel_rfl) (by kernel_rfl) (fun _ _ _ h => h) (Or.inl ⟨by rfl, ?_⟩) (by assumption) ?_
    rotate_left
    · (intro w hSw; (try dsimp only at hSw); go_simp; (try with_reducible rfl))
    try simp only [Act.put, List.setIfInBounds_toArray, List.set_cons_zero, List.set_cons_succ]
    refine wpAnyH_take (i := 2) (oi := ⟨some 27, _, _, _, _, _⟩) (v := ?_) rfl (by kernel_rfl) (by kernel_rfl) (by kernel_rfl) (fun _ _ _ h => h) (Or.inl ⟨by rfl, ?_⟩) (by assumption) ?_
    rotate_left
    · (intro w hSw; (try dsimp only at hSw); go_simp; (try with_reducible rfl))
    try simp only [Act.put, List.setIfInBounds_toArray, List.set_cons_zero, List.set_cons_succ]
    refine wpAnyH_take (i := 3) (oi := ⟨some 28, _, _, _, _, _⟩) (v := ?_) rfl (by kernel_rfl) (by kernel_rfl) (by kernel_rfl) (fun _ _ _ h => h) (Or.inl ⟨by rfl, ?_⟩) (by assumption) ?_
    rotate_left
    · (intro w hSw; (try dsimp only at hSw); go_simp; (try with_reducible rfl))
    try simp only [Act.put, List.setIfInBounds_toArray, List.set_cons_zero, List.set_cons_succ]
    refine wpAnyH_take (i := 4) (oi := ⟨some 29, _, _, _, _, _⟩) (v := ?_) rfl (by kernel_rfl) (by kernel_rfl) (by kernel_rfl) (fun _ _ _ h => h) (Or.inl ⟨by rfl, ?_⟩) (by assumption) ?_
    rotate_left
    · (intro w hSw; (try dsimp only at hSw); go_simp; (try with_reducible rfl))
    try simp only [Act.put, List.setIfInBounds_toArray, List.set_cons_zero, List.set_cons_succ]
    refine wpAnyH_take (i := 5) (oi := ⟨some 30, _, _, _, _, _⟩) (v := ?_) rfl (by kernel_rfl) (by kernel_rfl) (by kernel_rfl) (fun _ _ _ h => h) (Or.inl ⟨by rfl, ?_⟩) (by assumption) ?_
    rotate_left
    · (intro w hSw; (try dsimp only at hSw); go_simp; (try with_reducible rfl))
    try simp only [Act.put, List.setIfInBounds_toArray, List.set_cons_zero, List.set_cons_succ]
    refine wpAnyH_take (i := 6) (oi := ⟨some 31, _, _, _, _, _⟩) (v := ?_) rfl (by kernel_rfl) (by kernel_rfl) (by kernel_rfl) (fun _ _ _ h => h) (Or.inl ⟨by rfl, ?_⟩) (by assumption) ?_
    rotate_left
    · (intro w hSw; (try dsimp only at hSw); go_simp; (try with_reducible rfl))
    try simp only [Act.put, List.setIfInBounds_toArray, List.set_cons_zero, List.set_cons_succ]
    refine wpAnyH_take (i := 7) (oi := ⟨some 32, _, _, _, _, _⟩) (v := ?_) rfl (by kernel_rfl) (by kernel_rfl) (by kernel_rfl) (fun _ _ _ h => h) (Or.inl ⟨by rfl, ?_⟩) (by assumption) ?_
    rotate_left
    · (intro w hSw; (try dsimp only at hSw); go_simp; (try with_reducible rfl))
    try simp only [Act.put, List.setIfInBounds_toArray, List.set_cons_zero, List.set_cons_succ]
    refine wpAnyH_ready (rs := [8]) (by kernel_rfl) (by simp) ?_
    refine AllReadyH.cons (o := ⟨some 33, _, _, _, _, _⟩) rfl (fun K hK => ?_) AllReadyH.nil
    go_simp
    with_reducible refine (KA.out _ hHeld.2.2.2.2.2.2.2.2.out).mono ?_
    rintro e w' ⟨rfl, hb⟩
    go_wp2_with fail
    refine hK.out _ _ ?_ (fun hHeld => ?_)
    · exact ⟨cell_keep' hb hHeld.1, cell_keep' hb hHeld.2.1, cell_keep' hb hHeld.2.2.1, cell_keep' hb hHeld.2.2.2.1, cell_keep' hb hHeld.2.2.2.2.1, cell_keep' hb hHeld.2.2.2.2.2.1, cell_keep' hb hHeld.2.2.2.2.2.2.1, cell_keep' hb hHeld.2.2.2.2.2.2.2.1, Lib.hid (below_next hHeld.2.2.2.2.2.2.2.2.out hb)⟩
    clear hK K
    try simp only [Act.put, List.setIfInBounds_toArray, List.set_cons_zero, List.set_cons_succ]
    clear hb
    refine wpAnyH_take (i := 9) (oi := ⟨some 34, _, _, _, _, _⟩) (v := ?_) rfl (by kernel_rfl) (by kernel_rfl) (by kernel_rfl) (fun _ _ _ h => h) (Or.inl ⟨by rfl, ?_⟩) (by assumption) ?_
    rotate_left
    · (intro w hSw; (try dsimp only at hSw); go_simp; (try with_reducible rfl))
    try simp only [Act.put, List.setIfInBounds_toArray, List.set_cons_zero, List.set_cons_succ]
    refine wpAnyH_take (i := 10) (oi := ⟨some 35, _, _, _, _, _⟩) (v := ?_) rfl (by kernel_rfl) (by kernel_rfl) (by kernel_rfl) (fun _ _ _ h => h) (Or.inl ⟨by rfl, ?_⟩) (by assumption) ?_
    rotate_left
    · (intro w hSw; (try dsimp only at hSw); go_simp; (try with_reducible rfl))
    try simp only [Act.put, List.setIfInBounds_toArray, List.set_cons_zero, List.set_cons_succ]
    refine wpAnyH_ready (rs := [11]) (by kernel_rfl) (by simp) ?_
    refine AllReadyH.cons (o := ⟨some 36, _, _, _, _, _⟩) rfl (fun K hK => ?_) AllReadyH.nil
    go_simp
    with_reducible refine (KL.out _).mono ?_
    rintro e w' ⟨rfl, hb⟩
    go_wp2_with fail
    refine hK.out _ _ ?_ (fun hHeld => ?_)
    · exact ⟨cell_keep' hb hHeld.1, cell_keep' hb hHeld.2.1, cell_keep' hb hHeld.2.2.1, cell_keep' hb hHeld.2.2.2.1, cell_keep' hb hHeld.2.2.2.2.1, cell_keep' hb hHeld.2.2.2.2.2.1, cell_keep' hb hHeld.2.2.2.2.2.2.1, cell_keep' hb hHeld.2.2.2.2.2.2.2.1, Lib.hid (below_next hHeld.2.2.2.2.2.2.2.2.out hb)⟩
    clear hK K
    try simp only [Act.put, List.setIfInBounds_toArray, List.set_cons_zero, List.set_cons_succ]
    clear hb
    refine wpAnyH_take (i := 12) (oi := ⟨some 4, _, _, _, _, _⟩) (v := ?_) rfl (by kernel_rfl) (by kernel_rfl) (by kernel_rfl) (fun _ _ _ h => h) (Or.inl ⟨by rfl, ?_⟩) (by assumption) ?_
    rotate_left
    · (intro w hSw; (try dsimp only at hSw); go_simp; (try with_reducible rfl))
    try simp only [Act.put, List.setIfInBounds_toArray, List.set_cons_zero, List.set_cons_succ]
    refine wpAnyH_done (by kernel_rfl) ?_ _
    have HZ := Lib.hid hHeld.2.2.2.2.2.2.2.2.out
    clear hHeld
    go_wp2_with fail
    go_ret
    exact ⟨rfl, HZ.out⟩
  · obtain ⟨x, y, rfl⟩ : ∃ x y, xs = [x, y] := by
      match xs, HN.out with
      | [x, y], _ => exact ⟨x, y, rfl⟩
    change (Sy.line deep ((Sy.par 9 (Sy.level x, Sy.text x) ++ [46] ++ nm.data.toList ++ [32, 61, 32] ++ Sy.text y) ++ [59])).length ≤ _ at hl
    show Calls _ _ _ _ (fun r w' => r = .returned (.string ⟨(Sy.line deep ((Sy.par 9 (Sy.level x, Sy.text x) ++ [46] ++ nm.data.toList ++ [32, 61, 32] ++ Sy.text y) ++ [59])).toArray⟩) ∧ _)
    simp only [List.length_append, List.length_cons, List.length_nil, Sy.line_len] at hl
    obtain ⟨b', o', pa, AN, ca, rfl, hAN, hc, hsl⟩ := argAt HS.out (j := 0) (x := x) rfl
    obtain ⟨y0, y1, y2, y3, y4, y5⟩ := hc.keep HB1.out
    simp only [Nat.zero_mul, Nat.add_zero] at y0 y1 y2 y3 y4 y5
    obtain ⟨b2, o2, pb, BN, cb, e2, hBN, hc2, hsl2⟩ := argAt HS.out (j := 1) (x := y) rfl
    cases e2
    obtain ⟨u0, u1, u2, u3, u4, u5⟩ := hc2.keep HB1.out
    simp only [Nat.one_mul] at u0 u1 u2 u3 u4 u5
    have hpgA := Sy.par_long 9 (Sy.level x, Sy.text x)
    simp only [] at hpgA
    have KA := Lib.hid (KI0.out x pa AN ca 9 (by simp) hAN hsl (by omega))
    unfold exprV at KA
    rw [show ((9 : Nat) : Int) = 9 from rfl] at KA
    have KC := Lib.hid (KT0.out y pb BN cb (by simp) hBN hsl2 (by omega))
    unfold exprV at KC
    have KL := Lib.hid (KL0.out (⟨((Sy.par 9 (Sy.level x, Sy.text x))).toArray⟩ ++ ⟨#[46]⟩ ++ nm ++ ⟨#[32, 61, 32]⟩ ++ ⟨((Sy.text y)).toArray⟩ ++ ⟨#[59]⟩) ((Sy.par 9 (Sy.level x, Sy.text x)) ++ [46] ++ nm.data.toList ++ [32, 61, 32] ++ (Sy.text y) ++ [59]) (by simp only [ByteArray.size_append]; simp only [mk_size]; first | (simp; omega) | omega) (by rw [app_list, app_list, app_list, app_list, app_list]))
    have HT : Hid ((⟨(Sy.line deep ((Sy.par 9 (Sy.level x, Sy.text x) ++ [46] ++ nm.data.toList ++ [32, 61, 32] ++ Sy.text y) ++ [59])).toArray⟩ : ByteArray) = ⟨(Sy.line deep ((Sy.par 9 (Sy.level x, Sy.text x)) ++ [46] ++ nm.data.toList ++ [32, 61, 32] ++ (Sy.text y) ++ [59])).toArray⟩) := by show _ = _; first | rfl | (rw [List.append_assoc]; rfl)
    rw [← HT.out] at KL
    clear HT
    obtain ⟨A, hA⟩ : ∃ A : ByteArray, ⟨(Sy.par 9 (Sy.level x, Sy.text x)).toArray⟩ = A := ⟨_, rfl⟩
    have hAl : A.size ≤ 1000000000 := by rw [← hA]; show (Sy.par 9 (Sy.level x, Sy.text x)).length ≤ _; omega
    rw [hA] at KA KL
    obtain ⟨C, hC⟩ : ∃ A : ByteArray, ⟨(Sy.text y).toArray⟩ = A := ⟨_, rfl⟩
    have hCl : C.size ≤ 1000000000 := by rw [← hC]; show (Sy.text y).length ≤ _; omega
    rw [hC] at KC KL
    obtain ⟨R, hR⟩ : ∃ A : ByteArray, ⟨(Sy.line deep ((Sy.par 9 (Sy.level x, Sy.text x) ++ [46] ++ nm.data.toList ++ [32, 61, 32] ++ Sy.text y) ++ [59])).toArray⟩ = A := ⟨_, rfl⟩
    rw [hR] at KL ⊢
    have k1 : ¬ 9223372036854775807 < A.size + 1 := by omega
    have k2 : ¬ 9223372036854775807 < A.size + 1 + nm.size := by omega
    have k3 : ¬ 9223372036854775807 < A.size + 1 + nm.size + 3 := by omega
    have k4 : ¬ 9223372036854775807 < A.size + 1 + nm.size + 3 + C.size := by omega
    have k5 : ¬ 9223372036854775807 < A.size + 1 + nm.size + 3 + C.size + 1 := by omega
    have z0 := cell_of_blkP HC1.out (j := 0) (u := .int .i64 2) rfl
    have z1 := cell_of_blkP HC1.out (j := 1) (u := .string nm) rfl
    have z2 := cell_of_blkP HC1.out (j := 2) (u := .slice (some ⟨b', o', none⟩) 2 cx) rfl
    have hl1 := cell_lt' z0
    have hl2 := cell_lt' y0
    clear hl hR hAN hc hsl hnml hBN hc2 hsl2 hA hAl hpgA hC hCl
    go_enter Tryz.func97, Tryz.ntmps97
    go_upto_region 7 with fail
    rw [← HW1.out]
    clear HW1
    refine wp_region_held_drew (S := fun W => W.cell? ⟨w.heap.size, 1, none⟩ = some (.string nm) ∧ W.cell? ⟨w.heap.size, 2, none⟩ = some (.slice (some ⟨b', o', none⟩) 2 cx) ∧ W.cell? ⟨b', o', none⟩ = some (.int .i64 x.kind) ∧ W.cell? ⟨b', o' + 1, none⟩ = some (.int .i64 x.op) ∧ W.cell? ⟨b', o' + 2, none⟩ = some (.int .i64 x.int) ∧ W.cell? ⟨b', o' + 3, none⟩ = some (.string x.name) ∧ W.cell? ⟨b', o' + 4, none⟩ = some (.bool x.at_) ∧ W.cell? ⟨b', o' + 5, none⟩ = some (.slice pa AN ca) ∧ W.cell? ⟨b', o' + 6, none⟩ = some (.int .i64 y.kind) ∧ W.cell? ⟨b', o' + 6 + 1, none⟩ = some (.int .i64 y.op) ∧ W.cell? ⟨b', o' + 6 + 2, none⟩ = some (.int .i64 y.int) ∧ W.cell? ⟨b', o' + 6 + 3, none⟩ = some (.string y.name) ∧ W.cell? ⟨b', o' + 6 + 4, none⟩ = some (.bool y.at_) ∧ W.cell? ⟨b', o' + 6 + 5, none⟩ = some (.slice pb BN cb) ∧ Hid (Below w.heap.size w W)) (by kernel_rfl) ?_ (fun hHeld => ?_)
    · exact ⟨z1, z2, y0, y1, y2, y3, y4, y5, u0, u1, u2, u3, u4, u5, Lib.hid (HB1.out).drew⟩
    clear z1 z2 y0 y1 y2 y3 y4 y5 u0 u1 u2 u3 u4 u5
    refine wpAnyH_take (i := 0) (oi := ⟨some 39, _, _, _, _, _⟩) (v := ?_) rfl (by kernel_rfl) (by kernel_rfl) (by kernel_rfl) (fun _ _ _ h => h) (Or.inl ⟨by rfl, ?_⟩) (by assumption) ?_
    rotate_left
    · (intro w hSw; (try dsimp only at hSw); go_simp; (try with_reducible rfl))
    try simp only [Act.put, List.setIfInBounds_toArray, List.set_cons_zero, List.set_cons_succ]
    refine wpAnyH_take (i := 1) (oi := ⟨some 40, _, _, _, _, _⟩) (v := ?_) rfl (by kernel_rfl) (by kernel_rfl) (by kernel_rfl) (fun _ _ _ h => h) (Or.inl ⟨by rfl, ?_⟩) (by assumption) ?_
    rotate_left
    · (intro w hSw; (try dsimp only at hSw); go_simp; (try with_reducible rfl))
    try simp only [Act.put, List.setIfInBounds_toArray, List.set_cons_zero, List.set_cons_succ]
    refine wpAnyH_take (i := 2) (oi := ⟨some 41, _, _, _, _, _⟩) (v := ?_) rfl (by kernel_rfl) (by kernel_rfl) (by kernel_rfl) (fun _ _ _ h => h) (Or.inl ⟨by rfl, ?_⟩) (by assumption) ?_
    rotate_left
    · (intro w hSw; (try dsimp only at hSw); go_simp; (try with_reducible rfl))
    try simp only [Act.put, List.setIfInBounds_toArray, List.set_cons_zero, List.set_cons_succ]
    refine wpAnyH_take (i := 3) (oi := ⟨some 42, _, _, _, _, _⟩) (v := ?_) rfl (by kernel_rfl) (by kernel_rfl) (by kernel_rfl) (fun _ _ _ h => h) (Or.inl ⟨by rfl, ?_⟩) (by assumption) ?_
    rotate_left
    · (intro w hSw; (try dsimp only at hSw); go_simp; (try with_reducible rfl))
    try simp only [Act.put, List.setIfInBounds_toArray, List.set_cons_zero, List.set_cons_succ]
    refine wpAnyH_take (i := 4) (oi := ⟨some 43, _, _, _, _, _⟩) (v := ?_) rfl (by kernel_rfl) (by kernel_rfl) (by kernel_rfl) (fun _ _ _ h => h) (Or.inl ⟨by rfl, ?_⟩) (by assumption) ?_
    rotate_left
    · (intro w hSw; (try dsimp only at hSw); go_simp; (try with_reducible rfl))
    try simp only [Act.put, List.setIfInBounds_toArray, List.set_cons_zero, List.set_cons_succ]
    refine wpAnyH_take (i := 7) (oi := ⟨some 46, _, _, _, _, _⟩) (v := ?_) rfl (by kernel_rfl) (by kernel_rfl) (by kernel_rfl) (fun _ _ _ h => h) (Or.inl ⟨by rfl, ?_⟩) (by assumption) ?_
    rotate_left
    · (intro w hSw; (try dsimp only at hSw); go_simp; (try with_reducible rfl))
    try simp only [Act.put, List.setIfInBounds_toArray, List.set_cons_zero, List.set_cons_succ]
    refine wpAnyH_take (i := 8) (oi := ⟨some 47, _, _, _, _, _⟩) (v := ?_) rfl (by kernel_rfl) (by kernel_rfl) (by kernel_rfl) (fun _ _ _ h => h) (Or.inl ⟨by rfl, ?_⟩) (by assumption) ?_
    rotate_left
    · (intro w hSw; (try dsimp only at hSw); go_simp; (try with_reducible rfl))
    try simp only [Act.put, List.setIfInBounds_toArray, List.set_cons_zero, List.set_cons_succ]
    refine wpAnyH_take (i := 11) (oi := ⟨some 50, _, _, _, _, _⟩) (v := ?_) rfl (by kernel_rfl) (by kernel_rfl) (by kernel_rfl) (fun _ _ _ h => h) (Or.inl ⟨by rfl, ?_⟩) (by assumption) ?_
    rotate_left
    · (intro w hSw; (try dsimp only at hSw); go_simp; (try with_reducible rfl))
    try simp only [Act.put, List.setIfInBounds_toArray, List.set_cons_zero, List.set_cons_succ]
    refine wpAnyH_take (i := 12) (oi := ⟨some 51, _, _, _, _, _⟩) (v := ?_) rfl (by kernel_rfl) (by kernel_rfl) (by kernel_rfl) (fun _ _ _ h => h) (Or.inl ⟨by rfl, ?_⟩) (by assumption) ?_
    rotate_left
    · (intro w hSw; (try dsimp only at hSw); go_simp; (try with_reducible rfl))
    try simp only [Act.put, List.setIfInBounds_toArray, List.set_cons_zero, List.set_cons_succ]
    refine wpAnyH_take (i := 13) (oi := ⟨some 52, _, _, _, _, _⟩) (v := ?_) rfl (by kernel_rfl) (by kernel_rfl) (by kernel_rfl) (fun _ _ _ h => h) (Or.inl ⟨by rfl, ?_⟩) (by assumption) ?_
    rotate_left
    · (intro w hSw; (try dsimp only at hSw); go_simp; (try with_reducible rfl))
    try simp only [Act.put, List.setIfInBounds_toArray, List.set_cons_zero, List.set_cons_succ]
    refine wpAnyH_take (i := 14) (oi := ⟨some 53, _, _, _, _, _⟩) (v := ?_) rfl (by kernel_rfl) (by kernel_rfl) (by kernel_rfl) (fun _ _ _ h => h) (Or.inl ⟨by rfl, ?_⟩) (by assumption) ?_
    rotate_left
    · (intro w hSw; (try dsimp only at hSw); go_simp; (try with_reducible rfl))
    try simp only [Act.put, List.setIfInBounds_toArray, List.set_cons_zero, List.set_cons_succ]
    refine wpAnyH_ready (rs := [5]) (by kernel_rfl) (by simp) ?_
    refine AllReadyH.cons (o := ⟨some 44, _, _, _, _, _⟩) rfl (fun K hK => ?_) AllReadyH.nil
    go_simp
    with_reducible refine (KA.out _ hHeld.2.2.2.2.2.2.2.2.2.2.2.2.2.2.out).mono ?_
    rintro e w' ⟨rfl, hb⟩
    go_wp2_with fail
    refine hK.out _ _ ?_ (fun hHeld => ?_)
    · exact ⟨cell_keep' hb hHeld.1, cell_keep' hb hHeld.2.1, cell_keep' hb hHeld.2.2.1, cell_keep' hb hHeld.2.2.2.1, cell_keep' hb hHeld.2.2.2.2.1, cell_keep' hb hHeld.2.2.2.2.2.1, cell_keep' hb hHeld.2.2.2.2.2.2.1, cell_keep' hb hHeld.2.2.2.2.2.2.2.1, cell_keep' hb hHeld.2.2.2.2.2.2.2.2.1, cell_keep' hb hHeld.2.2.2.2.2.2.2.2.2.1, cell_keep' hb hHeld.2.2.2.2.2.2.2.2.2.2.1, cell_keep' hb hHeld.2.2.2.2.2.2.2.2.2.2.2.1, cell_keep' hb hHeld.2.2.2.2.2.2.2.2.2.2.2.2.1, cell_keep' hb hHeld.2.2.2.2.2.2.2.2.2.2.2.2.2.1, Lib.hid (below_next hHeld.2.2.2.2.2.2.2.2.2.2.2.2.2.2.out hb)⟩
    clear hK K
    try simp only [Act.put, List.setIfInBounds_toArray, List.set_cons_zero, List.set_cons_succ]
    clear hb
    refine wpAnyH_take (i := 6) (oi := ⟨some 45, _, _, _, _, _⟩) (v := ?_) rfl (by kernel_rfl) (by kernel_rfl) (by kernel_rfl) (fun _ _ _ h => h) (Or.inl ⟨by rfl, ?_⟩) (by assumption) ?_
    rotate_left
    · (intro w hSw; (try dsimp only at hSw); go_simp; (try with_reducible rfl))
    try simp only [Act.put, List.setIfInBounds_toArray, List.set_cons_zero, List.set_cons_succ]
    refine wpAnyH_take (i := 9) (oi := ⟨some 48, _, _, _, _, _⟩) (v := ?_) rfl (by kernel_rfl) (by kernel_rfl) (by kernel_rfl) (fun _ _ _ h => h) (Or.inl ⟨by rfl, ?_⟩) (by assumption) ?_
    rotate_left
    · (intro w hSw; (try dsimp only at hSw); go_simp; (try with_reducible rfl))
    try simp only [Act.put, List.setIfInBounds_toArray, List.set_cons_zero, List.set_cons_succ]
    refine wpAnyH_take (i := 10) (oi := ⟨some 49, _, _, _, _, _⟩) (v := ?_) rfl (by kernel_rfl) (by kernel_rfl) (by kernel_rfl) (fun _ _ _ h => h) (Or.inl ⟨by rfl, ?_⟩) (by assumption) ?_
    rotate_left
    · (intro w hSw; (try dsimp only at hSw); go_simp; (try with_reducible rfl))
    try simp only [Act.put, List.setIfInBounds_toArray, List.set_cons_zero, List.set_cons_succ]
    refine wpAnyH_ready (rs := [15]) (by kernel_rfl) (by simp) ?_
    refine AllReadyH.cons (o := ⟨some 54, _, _, _, _, _⟩) rfl (fun K hK => ?_) AllReadyH.nil
    go_simp
    with_reducible refine (KC.out _ hHeld.2.2.2.2.2.2.2.2.2.2.2.2.2.2.out).mono ?_
    rintro e w' ⟨rfl, hb⟩
    go_wp2_with fail
    refine hK.out _ _ ?_ (fun hHeld => ?_)
    · exact ⟨cell_keep' hb hHeld.1, cell_keep' hb hHeld.2.1, cell_keep' hb hHeld.2.2.1, cell_keep' hb hHeld.2.2.2.1, cell_keep' hb hHeld.2.2.2.2.1, cell_keep' hb hHeld.2.2.2.2.2.1, cell_keep' hb hHeld.2.2.2.2.2.2.1, cell_keep' hb hHeld.2.2.2.2.2.2.2.1, cell_keep' hb hHeld.2.2.2.2.2.2.2.2.1, cell_keep' hb hHeld.2.2.2.2.2.2.2.2.2.1, cell_keep' hb hHeld.2.2.2.2.2.2.2.2.2.2.1, cell_keep' hb hHeld.2.2.2.2.2.2.2.2.2.2.2.1, cell_keep' hb hHeld.2.2.2.2.2.2.2.2.2.2.2.2.1, cell_keep' hb hHeld.2.2.2.2.2.2.2.2.2.2.2.2.2.1, Lib.hid (below_next hHeld.2.2.2.2.2.2.2.2.2.2.2.2.2.2.out hb)⟩
    clear hK K
    try simp only [Act.put, List.setIfInBounds_toArray, List.set_cons_zero, List.set_cons_succ]
    clear hb
    refine wpAnyH_take (i := 16) (oi := ⟨some 55, _, _, _, _, _⟩) (v := ?_) rfl (by kernel_rfl) (by kernel_rfl) (by kernel_rfl) (fun _ _ _ h => h) (Or.inl ⟨by rfl, ?_⟩) (by assumption) ?_
    rotate_left
    · (intro w hSw; (try dsimp only at hSw); go_simp; (try with_reducible rfl))
    try simp only [Act.put, List.setIfInBounds_toArray, List.set_cons_zero, List.set_cons_succ]
    refine wpAnyH_take (i := 17) (oi := ⟨some 56, _, _, _, _, _⟩) (v := ?_) rfl (by kernel_rfl) (by kernel_rfl) (by kernel_rfl) (fun _ _ _ h => h) (Or.inl ⟨by rfl, ?_⟩) (by assumption) ?_
    rotate_left
    · (intro w hSw; (try dsimp only at hSw); go_simp; (try with_reducible rfl))
    try simp only [Act.put, List.setIfInBounds_toArray, List.set_cons_zero, List.set_cons_succ]
    refine wpAnyH_ready (rs := [18]) (by kernel_rfl) (by simp) ?_
    refine AllReadyH.cons (o := ⟨some 57, _, _, _, _, _⟩) rfl (fun K hK => ?_) AllReadyH.nil
    go_simp
    with_reducible refine (KL.out _).mono ?_
    rintro e w' ⟨rfl, hb⟩
    go_wp2_with fail
    refine hK.out _ _ ?_ (fun hHeld => ?_)
    · exact ⟨cell_keep' hb hHeld.1, cell_keep' hb hHeld.2.1, cell_keep' hb hHeld.2.2.1, cell_keep' hb hHeld.2.2.2.1, cell_keep' hb hHeld.2.2.2.2.1, cell_keep' hb hHeld.2.2.2.2.2.1, cell_keep' hb hHeld.2.2.2.2.2.2.1, cell_keep' hb hHeld.2.2.2.2.2.2.2.1, cell_keep' hb hHeld.2.2.2.2.2.2.2.2.1, cell_keep' hb hHeld.2.2.2.2.2.2.2.2.2.1, cell_keep' hb hHeld.2.2.2.2.2.2.2.2.2.2.1, cell_keep' hb hHeld.2.2.2.2.2.2.2.2.2.2.2.1, cell_keep' hb hHeld.2.2.2.2.2.2.2.2.2.2.2.2.1, cell_keep' hb hHeld.2.2.2.2.2.2.2.2.2.2.2.2.2.1, Lib.hid (below_next hHeld.2.2.2.2.2.2.2.2.2.2.2.2.2.2.out hb)⟩
    clear hK K
    try simp only [Act.put, List.setIfInBounds_toArray, List.set_cons_zero, List.set_cons_succ]
    clear hb
    refine wpAnyH_take (i := 19) (oi := ⟨some 4, _, _, _, _, _⟩) (v := ?_) rfl (by kernel_rfl) (by kernel_rfl) (by kernel_rfl) (fun _ _ _ h => h) (Or.inl ⟨by rfl, ?_⟩) (by assumption) ?_
    rotate_left
    · (intro w hSw; (try dsimp only at hSw); go_simp; (try with_reducible rfl))
    try simp only [Act.put, List.setIfInBounds_toArray, List.set_cons_zero, List.set_cons_succ]
    refine wpAnyH_done (by kernel_rfl) ?_ _
    have HZ := Lib.hid hHeld.2.2.2.2.2.2.2.2.2.2.2.2.2.2.out
    clear hHeld
    go_wp2_with fail
    go_ret
    exact ⟨rfl, HZ.out⟩
  · obtain ⟨x, rfl⟩ : ∃ x, xs = [x] := by
      match xs, HN.out with
      | [x], _ => exact ⟨x, rfl⟩
    change (Sy.line deep ([105, 102, 32] ++ Sy.text x ++ [32, 123]) ++ Sy.stmts (deep + 1) bs ++ (if decide (0 < ZN) then Sy.line deep [125, 32, 101, 108, 115, 101, 32, 123] ++ Sy.stmts (deep + 1) ls else []) ++ Sy.line deep [125]).length ≤ _ at hl
    show Calls _ _ _ _ (fun r w' => r = .returned (.string ⟨(Sy.line deep ([105, 102, 32] ++ Sy.text x ++ [32, 123]) ++ Sy.stmts (deep + 1) bs ++ (if decide (0 < ZN) then Sy.line deep [125, 32, 101, 108, 115, 101, 32, 123] ++ Sy.stmts (deep + 1) ls else []) ++ Sy.line deep [125]).toArray⟩) ∧ _)
    obtain ⟨b', o', pa, AN, ca, rfl, hAN, hc, hsl⟩ := argAt HS.out (j := 0) (x := x) rfl
    obtain ⟨y0, y1, y2, y3, y4, y5⟩ := hc.keep HB1.out
    simp only [Nat.zero_mul, Nat.add_zero] at y0 y1 y2 y3 y4 y5
    by_cases hzn : 0 < ZN
    · rw [decide_eq_true hzn, if_pos rfl] at hl ⊢
      simp only [List.length_append, List.length_cons, List.length_nil, Sy.line_len] at hl
      have KA := Lib.hid (KT0.out x pa AN ca (by simp) hAN hsl (by omega))
      unfold exprV at KA
      have KL := Lib.hid (KL0.out (⟨#[105, 102, 32]⟩ ++ ⟨((Sy.text x)).toArray⟩ ++ ⟨#[32, 123]⟩) ([105, 102, 32] ++ (Sy.text x) ++ [32, 123]) (by simp only [ByteArray.size_append]; simp only [mk_size]; first | (simp; omega) | omega) (by rw [app_list, app_list]))
      have KR := Lib.hid (KL0.out (⟨#[125]⟩) ([125]) (by decide) rfl)
      have KM := Lib.hid (KL0.out (⟨#[125, 32, 101, 108, 115, 101, 32, 123]⟩) ([125, 32, 101, 108, 115, 101, 32, 123]) (by decide) rfl)
      have KE1 := Lib.hid (KE.out (by omega))
      have KB1 := Lib.hid (KB.out (by omega))
      obtain ⟨A, hA⟩ : ∃ A : ByteArray, ⟨(Sy.text x).toArray⟩ = A := ⟨_, rfl⟩
      have hAl : A.size ≤ 1000000000 := by rw [← hA]; show (Sy.text x).length ≤ _; omega
      rw [hA] at KA KL
      obtain ⟨L1, hL1⟩ : ∃ A : ByteArray, ⟨(Sy.line deep ([105, 102, 32] ++ (Sy.text x) ++ [32, 123])).toArray⟩ = A := ⟨_, rfl⟩
      have hL1l : L1.size ≤ 1000000000 := by rw [← hL1]; show (Sy.line deep ([105, 102, 32] ++ (Sy.text x) ++ [32, 123])).length ≤ _; simp only [Sy.line_len, List.length_append, List.length_cons, List.length_nil]; omega
      rw [hL1] at KL
      obtain ⟨B, hB⟩ : ∃ A : ByteArray, ⟨(Sy.stmts (deep + 1) bs).toArray⟩ = A := ⟨_, rfl⟩
      have hBl : B.size ≤ 1000000000 := by rw [← hB]; show (Sy.stmts (deep + 1) bs).length ≤ _; omega
      rw [hB] at KB1
      obtain ⟨L2, hL2⟩ : ∃ A : ByteArray, ⟨(Sy.line deep [125]).toArray⟩ = A := ⟨_, rfl⟩
      have hL2l : L2.size ≤ 1000000000 := by rw [← hL2]; show (Sy.line deep [125]).length ≤ _; simp only [Sy.line_len, List.length_cons, List.length_nil]; omega
      rw [hL2] at KR
      obtain ⟨L3, hL3⟩ : ∃ A : ByteArray, ⟨(Sy.line deep [125, 32, 101, 108, 115, 101, 32, 123]).toArray⟩ = A := ⟨_, rfl⟩
      have hL3l : L3.size ≤ 1000000000 := by rw [← hL3]; show (Sy.line deep [125, 32, 101, 108, 115, 101, 32, 123]).length ≤ _; simp only [Sy.line_len, List.length_cons, List.length_nil]; omega
      rw [hL3] at KM
      obtain ⟨D, hD⟩ : ∃ A : ByteArray, ⟨(Sy.stmts (deep + 1) ls).toArray⟩ = A := ⟨_, rfl⟩
      have hDl : D.size ≤ 1000000000 := by rw [← hD]; show (Sy.stmts (deep + 1) ls).length ≤ _; omega
      rw [hD] at KE1
      have HF : Hid (L1 ++ B ++ L3 ++ D ++ L2 = ⟨(Sy.line deep ([105, 102, 32] ++ (Sy.text x) ++ [32, 123]) ++ Sy.stmts (deep + 1) bs ++ (Sy.line deep [125, 32, 101, 108, 115, 101, 32, 123] ++ Sy.stmts (deep + 1) ls) ++ Sy.line deep [125]).toArray⟩) := by show _ = _; rw [← hL1, ← hB, ← hL3, ← hD, ← hL2, mk_app, mk_app, mk_app, mk_app]; simp only [List.append_assoc]
      show Calls _ _ _ _ (fun r w' => r = .returned (.string ⟨(Sy.line deep ([105, 102, 32] ++ (Sy.text x) ++ [32, 123]) ++ Sy.stmts (deep + 1) bs ++ (Sy.line deep [125, 32, 101, 108, 115, 101, 32, 123] ++ Sy.stmts (deep + 1) ls) ++ Sy.line deep [125]).toArray⟩) ∧ _)
      rw [← HF.out]
      have k1 : ¬ 9223372036854775807 < 3 + A.size := by omega
      have k2 : ¬ 9223372036854775807 < 3 + A.size + 2 := by omega
      have g0 : ¬ 9223372036854775807 < L1.size + B.size := by omega
      have g1 : ¬ 9223372036854775807 < L1.size + B.size + L3.size := by omega
      have g2 : ¬ 9223372036854775807 < L1.size + B.size + L3.size + D.size := by omega
      have g3 : ¬ 9223372036854775807 < L1.size + B.size + L3.size + D.size + L2.size := by omega
      have bw : IntKind.i64.wrap ((deep : Int) + 1) = (deep : Int) + 1 := IntWalk.i64_in _ (by have := HDD.out; omega)
      have gz : (0 : Int) < (ZN : Int) := by omega
      have z0 := cell_of_blkP HC1.out (j := 0) (u := .int .i64 3) rfl
      have z2 := cell_of_blkP HC1.out (j := 2) (u := .slice (some ⟨b', o', none⟩) 1 cx) rfl
      have z3 := cell_of_blkP HC1.out (j := 3) (u := .slice py YN cy) rfl
      have z4 := cell_of_blkP HC1.out (j := 4) (u := .slice pz ZN cz) rfl
      have hl1 := cell_lt' z0
      have hl2 := cell_lt' y0
      clear hl HF hA hAl hAN hc hsl hnml hzn hL1 hL1l hB hBl hL3 hL3l hD hDl hL2 hL2l
      go_enter Tryz.func97, Tryz.ntmps97
      go_upto_region 9 with fail
      rw [← HW1.out]
      clear HW1
      refine wp_region_held_drew (S := fun W => W.cell? ⟨w.heap.size, 2, none⟩ = some (.slice (some ⟨b', o', none⟩) 1 cx) ∧ W.cell? ⟨w.heap.size, 3, none⟩ = some (.slice py YN cy) ∧ W.cell? ⟨w.heap.size, 4, none⟩ = some (.slice pz ZN cz) ∧ W.cell? ⟨b', o', none⟩ = some (.int .i64 x.kind) ∧ W.cell? ⟨b', o' + 1, none⟩ = some (.int .i64 x.op) ∧ W.cell? ⟨b', o' + 2, none⟩ = some (.int .i64 x.int) ∧ W.cell? ⟨b', o' + 3, none⟩ = some (.string x.name) ∧ W.cell? ⟨b', o' + 4, none⟩ = some (.bool x.at_) ∧ W.cell? ⟨b', o' + 5, none⟩ = some (.slice pa AN ca) ∧ Hid (Below w.heap.size w W)) (by kernel_rfl) ?_ (fun hHeld => ?_)
      · exact ⟨z2, z3, z4, y0, y1, y2, y3, y4, y5, Lib.hid (HB1.out).drew⟩
      clear z2 z3 z4 y0 y1 y2 y3 y4 y5
      refine wpAnyH_take (i := 0) (oi := ⟨some 60, _, _, _, _, _⟩) (v := ?_) rfl (by kernel_rfl) (by kernel_rfl) (by kernel_rfl) (fun _ _ _ h => h) (Or.inl ⟨by rfl, ?_⟩) (by assumption) ?_
      rotate_left
      · (intro w hSw; (try dsimp only at hSw); go_simp; (try with_reducible rfl))
      try simp only [Act.put, List.setIfInBounds_toArray, List.set_cons_zero, List.set_cons_succ]
      refine wpAnyH_take (i := 1) (oi := ⟨some 61, _, _, _, _, _⟩) (v := ?_) rfl (by kernel_rfl) (by kernel_rfl) (by kernel_rfl) (fun _ _ _ h => h) (Or.inl ⟨by rfl, ?_⟩) (by assumption) ?_
      rotate_left
      · (intro w hSw; (try dsimp only at hSw); go_simp; (try with_reducible rfl))
      try simp only [Act.put, List.setIfInBounds_toArray, List.set_cons_zero, List.set_cons_succ]
      refine wpAnyH_take (i := 2) (oi := ⟨some 62, _, _, _, _, _⟩) (v := ?_) rfl (by kernel_rfl) (by kernel_rfl) (by kernel_rfl) (fun _ _ _ h => h) (Or.inl ⟨by rfl, ?_⟩) (by assumption) ?_
      rotate_left
      · (intro w hSw; (try dsimp only at hSw); go_simp; (try with_reducible rfl))
      try simp only [Act.put, List.setIfInBounds_toArray, List.set_cons_zero, List.set_cons_succ]
      refine wpAnyH_take (i := 3) (oi := ⟨some 63, _, _, _, _, _⟩) (v := ?_) rfl (by kernel_rfl) (by kernel_rfl) (by kernel_rfl) (fun _ _ _ h => h) (Or.inl ⟨by rfl, ?_⟩) (by assumption) ?_
      rotate_left
      · (intro w hSw; (try dsimp only at hSw); go_simp; (try with_reducible rfl))
      try simp only [Act.put, List.setIfInBounds_toArray, List.set_cons_zero, List.set_cons_succ]
      refine wpAnyH_take (i := 4) (oi := ⟨some 64, _, _, _, _, _⟩) (v := ?_) rfl (by kernel_rfl) (by kernel_rfl) (by kernel_rfl) (fun _ _ _ h => h) (Or.inl ⟨by rfl, ?_⟩) (by assumption) ?_
      rotate_left
      · (intro w hSw; (try dsimp only at hSw); go_simp; (try with_reducible rfl))
      try simp only [Act.put, List.setIfInBounds_toArray, List.set_cons_zero, List.set_cons_succ]
      refine wpAnyH_take (i := 9) (oi := ⟨some 69, _, _, _, _, _⟩) (v := ?_) rfl (by kernel_rfl) (by kernel_rfl) (by kernel_rfl) (fun _ _ _ h => h) (Or.inl ⟨by rfl, ?_⟩) (by assumption) ?_
      rotate_left
      · (intro w hSw; (try dsimp only at hSw); go_simp; (try with_reducible rfl))
      try simp only [Act.put, List.setIfInBounds_toArray, List.set_cons_zero, List.set_cons_succ]
      refine wpAnyH_take (i := 10) (oi := ⟨some 70, _, _, _, _, _⟩) (v := ?_) rfl (by kernel_rfl) (by kernel_rfl) (by kernel_rfl) (fun _ _ _ h => h) (Or.inl ⟨by rfl, ?_⟩) (by assumption) ?_
      rotate_left
      · (intro w hSw; (try dsimp only at hSw); go_simp; (try with_reducible rfl))
      try simp only [Act.put, List.setIfInBounds_toArray, List.set_cons_zero, List.set_cons_succ]
      refine wpAnyH_take (i := 11) (oi := ⟨some 71, _, _, _, _, _⟩) (v := ?_) rfl (by kernel_rfl) (by kernel_rfl) (by kernel_rfl) (fun _ _ _ h => h) (Or.inl ⟨by rfl, ?_⟩) (by assumption) ?_
      rotate_left
      · (intro w hSw; (try dsimp only at hSw); go_simp; (try with_reducible rfl))
      try simp only [Act.put, List.setIfInBounds_toArray, List.set_cons_zero, List.set_cons_succ]
      refine wpAnyH_take (i := 12) (oi := ⟨some 72, _, _, _, _, _⟩) (v := ?_) rfl (by kernel_rfl) (by kernel_rfl) (by kernel_rfl) (fun _ _ _ h => h) (Or.inl ⟨by rfl, ?_⟩) (by assumption) ?_
      rotate_left
      · (intro w hSw; (try dsimp only at hSw); go_simp; (try with_reducible rfl))
      try simp only [Act.put, List.setIfInBounds_toArray, List.set_cons_zero, List.set_cons_succ]
      refine wpAnyH_ready (rs := [5]) (by kernel_rfl) (by simp) ?_
      refine AllReadyH.cons (o := ⟨some 65, _, _, _, _, _⟩) rfl (fun K hK => ?_) AllReadyH.nil
      go_simp
      with_reducible refine (KA.out _ hHeld.2.2.2.2.2.2.2.2.2.out).mono ?_
      rintro e w' ⟨rfl, hb⟩
      go_wp2_with fail
      refine hK.out _ _ ?_ (fun hHeld => ?_)
      · exact ⟨cell_keep' hb hHeld.1, cell_keep' hb hHeld.2.1, cell_keep' hb hHeld.2.2.1, cell_keep' hb hHeld.2.2.2.1, cell_keep' hb hHeld.2.2.2.2.1, cell_keep' hb hHeld.2.2.2.2.2.1, cell_keep' hb hHeld.2.2.2.2.2.2.1, cell_keep' hb hHeld.2.2.2.2.2.2.2.1, cell_keep' hb hHeld.2.2.2.2.2.2.2.2.1, Lib.hid (below_next hHeld.2.2.2.2.2.2.2.2.2.out hb)⟩
      clear hK K
      try simp only [Act.put, List.setIfInBounds_toArray, List.set_cons_zero, List.set_cons_succ]
      clear hb
      refine wpAnyH_take (i := 6) (oi := ⟨some 66, _, _, _, _, _⟩) (v := ?_) rfl (by kernel_rfl) (by kernel_rfl) (by kernel_rfl) (fun _ _ _ h => h) (Or.inl ⟨by rfl, ?_⟩) (by assumption) ?_
      rotate_left
      · (intro w hSw; (try dsimp only at hSw); go_simp; (try with_reducible rfl))
      try simp only [Act.put, List.setIfInBounds_toArray, List.set_cons_zero, List.set_cons_succ]
      refine wpAnyH_take (i := 7) (oi := ⟨some 67, _, _, _, _, _⟩) (v := ?_) rfl (by kernel_rfl) (by kernel_rfl) (by kernel_rfl) (fun _ _ _ h => h) (Or.inl ⟨by rfl, ?_⟩) (by assumption) ?_
      rotate_left
      · (intro w hSw; (try dsimp only at hSw); go_simp; (try with_reducible rfl))
      try simp only [Act.put, List.setIfInBounds_toArray, List.set_cons_zero, List.set_cons_succ]
      refine wpAnyH_ready (rs := [8]) (by kernel_rfl) (by simp) ?_
      refine AllReadyH.cons (o := ⟨some 68, _, _, _, _, _⟩) rfl (fun K hK => ?_) AllReadyH.nil
      go_simp
      with_reducible refine (KL.out _).mono ?_
      rintro e w' ⟨rfl, hb⟩
      go_wp2_with fail
      refine hK.out _ _ ?_ (fun hHeld => ?_)
      · exact ⟨cell_keep' hb hHeld.1, cell_keep' hb hHeld.2.1, cell_keep' hb hHeld.2.2.1, cell_keep' hb hHeld.2.2.2.1, cell_keep' hb hHeld.2.2.2.2.1, cell_keep' hb hHeld.2.2.2.2.2.1, cell_keep' hb hHeld.2.2.2.2.2.2.1, cell_keep' hb hHeld.2.2.2.2.2.2.2.1, cell_keep' hb hHeld.2.2.2.2.2.2.2.2.1, Lib.hid (below_next hHeld.2.2.2.2.2.2.2.2.2.out hb)⟩
      clear hK K
      try simp only [Act.put, List.setIfInBounds_toArray, List.set_cons_zero, List.set_cons_succ]
      clear hb
      refine wpAnyH_ready (rs := [13]) (by kernel_rfl) (by simp) ?_
      refine AllReadyH.cons (o := ⟨some 73, _, _, _, _, _⟩) rfl (fun K hK => ?_) AllReadyH.nil
      go_simp
      with_reducible refine (KB1.out _ hHeld.2.2.2.2.2.2.2.2.2.out).mono ?_
      rintro e w' ⟨rfl, hb⟩
      go_wp2_with fail
      refine hK.out _ _ ?_ (fun hHeld => ?_)
      · exact ⟨cell_keep' hb hHeld.1, cell_keep' hb hHeld.2.1, cell_keep' hb hHeld.2.2.1, cell_keep' hb hHeld.2.2.2.1, cell_keep' hb hHeld.2.2.2.2.1, cell_keep' hb hHeld.2.2.2.2.2.1, cell_keep' hb hHeld.2.2.2.2.2.2.1, cell_keep' hb hHeld.2.2.2.2.2.2.2.1, cell_keep' hb hHeld.2.2.2.2.2.2.2.2.1, Lib.hid (below_next hHeld.2.2.2.2.2.2.2.2.2.out hb)⟩
      clear hK K
      try simp only [Act.put, List.setIfInBounds_toArray, List.set_cons_zero, List.set_cons_succ]
      clear hb
      refine wpAnyH_take (i := 14) (oi := ⟨some 74, _, _, _, _, _⟩) (v := ?_) rfl (by kernel_rfl) (by kernel_rfl) (by kernel_rfl) (fun _ _ _ h => h) (Or.inl ⟨by rfl, ?_⟩) (by assumption) ?_
      rotate_left
      · (intro w hSw; (try dsimp only at hSw); go_simp; (try with_reducible rfl))
      try simp only [Act.put, List.setIfInBounds_toArray, List.set_cons_zero, List.set_cons_succ]
      refine wpAnyH_take (i := 15) (oi := ⟨some 5, _, _, _, _, _⟩) (v := ?_) rfl (by kernel_rfl) (by kernel_rfl) (by kernel_rfl) (fun _ _ _ h => h) (Or.inl ⟨by rfl, ?_⟩) (by assumption) ?_
      rotate_left
      · (intro w hSw; (try dsimp only at hSw); go_simp; (try with_reducible rfl))
      try simp only [Act.put, List.setIfInBounds_toArray, List.set_cons_zero, List.set_cons_succ]
      refine wpAnyH_done (by kernel_rfl) ?_ _
      have HZ := Lib.hid hHeld.2.2.2.2.2.2.2.2.2.out
      have z4 := hHeld.2.2.1
      clear hHeld
      go_wp2_with fail
      refine wp_region_held_drew (S := fun W => W.cell? ⟨w.heap.size, 4, none⟩ = some (.slice pz ZN cz) ∧ Hid (Below w.heap.size w W)) (by kernel_rfl) ?_ (fun hHeld => ?_)
      · exact ⟨z4, Lib.hid (HZ.out).drew⟩
      clear z4
      refine wpAnyH_take (i := 0) (oi := ⟨some 79, _, _, _, _, _⟩) (v := ?_) rfl (by kernel_rfl) (by kernel_rfl) (by kernel_rfl) (fun _ _ _ h => h) (Or.inl ⟨by rfl, ?_⟩) (by assumption) ?_
      rotate_left
      · (intro w hSw; (try dsimp only at hSw); go_simp; (try with_reducible rfl))
      try simp only [Act.put, List.setIfInBounds_toArray, List.set_cons_zero, List.set_cons_succ]
      refine wpAnyH_take (i := 1) (oi := ⟨some 80, _, _, _, _, _⟩) (v := ?_) rfl (by kernel_rfl) (by kernel_rfl) (by kernel_rfl) (fun _ _ _ h => h) (Or.inl ⟨by rfl, ?_⟩) (by assumption) ?_
      rotate_left
      · (intro w hSw; (try dsimp only at hSw); go_simp; (try with_reducible rfl))
      try simp only [Act.put, List.setIfInBounds_toArray, List.set_cons_zero, List.set_cons_succ]
      refine wpAnyH_take (i := 4) (oi := ⟨some 83, _, _, _, _, _⟩) (v := ?_) rfl (by kernel_rfl) (by kernel_rfl) (by kernel_rfl) (fun _ _ _ h => h) (Or.inl ⟨by rfl, ?_⟩) (by assumption) ?_
      rotate_left
      · (intro w hSw; (try dsimp only at hSw); go_simp; (try with_reducible rfl))
      try simp only [Act.put, List.setIfInBounds_toArray, List.set_cons_zero, List.set_cons_succ]
      refine wpAnyH_take (i := 5) (oi := ⟨some 84, _, _, _, _, _⟩) (v := ?_) rfl (by kernel_rfl) (by kernel_rfl) (by kernel_rfl) (fun _ _ _ h => h) (Or.inl ⟨by rfl, ?_⟩) (by assumption) ?_
      rotate_left
      · (intro w hSw; (try dsimp only at hSw); go_simp; (try with_reducible rfl))
      try simp only [Act.put, List.setIfInBounds_toArray, List.set_cons_zero, List.set_cons_succ]
      refine wpAnyH_take (i := 6) (oi := ⟨some 85, _, _, _, _, _⟩) (v := ?_) rfl (by kernel_rfl) (by kernel_rfl) (by kernel_rfl) (fun _ _ _ h => h) (Or.inl ⟨by rfl, ?_⟩) (by assumption) ?_
      rotate_left
      · (intro w hSw; (try dsimp only at hSw); go_simp; (try with_reducible rfl))
      try simp only [Act.put, List.setIfInBounds_toArray, List.set_cons_zero, List.set_cons_succ]
      refine wpAnyH_take (i := 7) (oi := ⟨some 86, _, _, _, _, _⟩) (v := ?_) rfl (by kernel_rfl) (by kernel_rfl) (by kernel_rfl) (fun _ _ _ h => h) (Or.inl ⟨by rfl, ?_⟩) (by assumption) ?_
      rotate_left
      · (intro w hSw; (try dsimp only at hSw); go_simp; (try with_reducible rfl))
      try simp only [Act.put, List.setIfInBounds_toArray, List.set_cons_zero, List.set_cons_succ]
      refine wpAnyH_ready (rs := [2]) (by kernel_rfl) (by simp) ?_
      refine AllReadyH.cons (o := ⟨some 81, _, _, _, _, _⟩) rfl (fun K hK => ?_) AllReadyH.nil
      go_simp
      with_reducible refine (KM.out _).mono ?_
      rintro e w' ⟨rfl, hb⟩
      go_wp2_with fail
      refine hK.out _ _ ?_ (fun hHeld => ?_)
      · exact ⟨cell_keep' hb hHeld.1, Lib.hid (below_next hHeld.2.out hb)⟩
      clear hK K
      try simp only [Act.put, List.setIfInBounds_toArray, List.set_cons_zero, List.set_cons_succ]
      clear hb
      refine wpAnyH_take (i := 3) (oi := ⟨some 82, _, _, _, _, _⟩) (v := ?_) rfl (by kernel_rfl) (by kernel_rfl) (by kernel_rfl) (fun _ _ _ h => h) (Or.inl ⟨by rfl, ?_⟩) (by assumption) ?_
      rotate_left
      · (intro w hSw; (try dsimp only at hSw); go_simp; (try with_reducible rfl))
      try simp only [Act.put, List.setIfInBounds_toArray, List.set_cons_zero, List.set_cons_succ]
      refine wpAnyH_ready (rs := [8]) (by kernel_rfl) (by simp) ?_
      refine AllReadyH.cons (o := ⟨some 87, _, _, _, _, _⟩) rfl (fun K hK => ?_) AllReadyH.nil
      go_simp
      with_reducible refine (KE1.out _ hHeld.2.out).mono ?_
      rintro e w' ⟨rfl, hb⟩
      go_wp2_with fail
      refine hK.out _ _ ?_ (fun hHeld => ?_)
      · exact ⟨cell_keep' hb hHeld.1, Lib.hid (below_next hHeld.2.out hb)⟩
      clear hK K
      try simp only [Act.put, List.setIfInBounds_toArray, List.set_cons_zero, List.set_cons_succ]
      clear hb
      refine wpAnyH_take (i := 9) (oi := ⟨some 88, _, _, _, _, _⟩) (v := ?_) rfl (by kernel_rfl) (by kernel_rfl) (by kernel_rfl) (fun _ _ _ h => h) (Or.inl ⟨by rfl, ?_⟩) (by assumption) ?_
      rotate_left
      · (intro w hSw; (try dsimp only at hSw); go_simp; (try with_reducible rfl))
      try simp only [Act.put, List.setIfInBounds_toArray, List.set_cons_zero, List.set_cons_succ]
      refine wpAnyH_take (i := 10) (oi := ⟨some 5, _, _, _, _, _⟩) (v := ?_) rfl (by kernel_rfl) (by kernel_rfl) (by kernel_rfl) (fun _ _ _ h => h) (Or.inl ⟨by rfl, ?_⟩) (by assumption) ?_
      rotate_left
      · (intro w hSw; (try dsimp only at hSw); go_simp; (try with_reducible rfl))
      try simp only [Act.put, List.setIfInBounds_toArray, List.set_cons_zero, List.set_cons_succ]
      refine wpAnyH_done (by kernel_rfl) ?_ _
      have HZ := Lib.hid hHeld.2.out
      clear hHeld
      go_wp2_with fail
      refine (KR.out _).mono ?_
      rintro e' w3 ⟨rfl, hb3⟩
      have HZ := Lib.hid (below_next HZ.out hb3)
      clear hb3
      go_wp2_with fail
      go_ret
      exact ⟨rfl, HZ.out⟩
    · rw [decide_eq_false hzn, if_neg (by decide)] at hl ⊢
      simp only [List.length_append, List.length_cons, List.length_nil, Sy.line_len] at hl
      have KA := Lib.hid (KT0.out x pa AN ca (by simp) hAN hsl (by omega))
      unfold exprV at KA
      have KL := Lib.hid (KL0.out (⟨#[105, 102, 32]⟩ ++ ⟨((Sy.text x)).toArray⟩ ++ ⟨#[32, 123]⟩) ([105, 102, 32] ++ (Sy.text x) ++ [32, 123]) (by simp only [ByteArray.size_append]; simp only [mk_size]; first | (simp; omega) | omega) (by rw [app_list, app_list]))
      have KR := Lib.hid (KL0.out (⟨#[125]⟩) ([125]) (by decide) rfl)
      have KB1 := Lib.hid (KB.out (by omega))
      obtain ⟨A, hA⟩ : ∃ A : ByteArray, ⟨(Sy.text x).toArray⟩ = A := ⟨_, rfl⟩
      have hAl : A.size ≤ 1000000000 := by rw [← hA]; show (Sy.text x).length ≤ _; omega
      rw [hA] at KA KL
      obtain ⟨L1, hL1⟩ : ∃ A : ByteArray, ⟨(Sy.line deep ([105, 102, 32] ++ (Sy.text x) ++ [32, 123])).toArray⟩ = A := ⟨_, rfl⟩
      have hL1l : L1.size ≤ 1000000000 := by rw [← hL1]; show (Sy.line deep ([105, 102, 32] ++ (Sy.text x) ++ [32, 123])).length ≤ _; simp only [Sy.line_len, List.length_append, List.length_cons, List.length_nil]; omega
      rw [hL1] at KL
      obtain ⟨B, hB⟩ : ∃ A : ByteArray, ⟨(Sy.stmts (deep + 1) bs).toArray⟩ = A := ⟨_, rfl⟩
      have hBl : B.size ≤ 1000000000 := by rw [← hB]; show (Sy.stmts (deep + 1) bs).length ≤ _; omega
      rw [hB] at KB1
      obtain ⟨L2, hL2⟩ : ∃ A : ByteArray, ⟨(Sy.line deep [125]).toArray⟩ = A := ⟨_, rfl⟩
      have hL2l : L2.size ≤ 1000000000 := by rw [← hL2]; show (Sy.line deep [125]).length ≤ _; simp only [Sy.line_len, List.length_cons, List.length_nil]; omega
      rw [hL2] at KR
      have HF : Hid (L1 ++ B ++ L2 = ⟨(Sy.line deep ([105, 102, 32] ++ (Sy.text x) ++ [32, 123]) ++ Sy.stmts (deep + 1) bs ++ [] ++ Sy.line deep [125]).toArray⟩) := by show _ = _; rw [← hL1, ← hB, ← hL2, mk_app, mk_app]; rw [List.append_nil]
      show Calls _ _ _ _ (fun r w' => r = .returned (.string ⟨(Sy.line deep ([105, 102, 32] ++ (Sy.text x) ++ [32, 123]) ++ Sy.stmts (deep + 1) bs ++ [] ++ Sy.line deep [125]).toArray⟩) ∧ _)
      rw [← HF.out]
      have k1 : ¬ 9223372036854775807 < 3 + A.size := by omega
      have k2 : ¬ 9223372036854775807 < 3 + A.size + 2 := by omega
      have g0 : ¬ 9223372036854775807 < L1.size + B.size := by omega
      have g1 : ¬ 9223372036854775807 < L1.size + B.size + L2.size := by omega
      have bw : IntKind.i64.wrap ((deep : Int) + 1) = (deep : Int) + 1 := IntWalk.i64_in _ (by have := HDD.out; omega)
      have gz : ¬ (0 : Int) < (ZN : Int) := by omega
      have z0 := cell_of_blkP HC1.out (j := 0) (u := .int .i64 3) rfl
      have z2 := cell_of_blkP HC1.out (j := 2) (u := .slice (some ⟨b', o', none⟩) 1 cx) rfl
      have z3 := cell_of_blkP HC1.out (j := 3) (u := .slice py YN cy) rfl
      have z4 := cell_of_blkP HC1.out (j := 4) (u := .slice pz ZN cz) rfl
      have hl1 := cell_lt' z0
      have hl2 := cell_lt' y0
      clear hl HF hA hAl hAN hc hsl hnml hzn hL1 hL1l hB hBl hL2 hL2l
      go_enter Tryz.func97, Tryz.ntmps97
      go_upto_region 9 with fail
      rw [← HW1.out]
      clear HW1
      refine wp_region_held_drew (S := fun W => W.cell? ⟨w.heap.size, 2, none⟩ = some (.slice (some ⟨b', o', none⟩) 1 cx) ∧ W.cell? ⟨w.heap.size, 3, none⟩ = some (.slice py YN cy) ∧ W.cell? ⟨w.heap.size, 4, none⟩ = some (.slice pz ZN cz) ∧ W.cell? ⟨b', o', none⟩ = some (.int .i64 x.kind) ∧ W.cell? ⟨b', o' + 1, none⟩ = some (.int .i64 x.op) ∧ W.cell? ⟨b', o' + 2, none⟩ = some (.int .i64 x.int) ∧ W.cell? ⟨b', o' + 3, none⟩ = some (.string x.name) ∧ W.cell? ⟨b', o' + 4, none⟩ = some (.bool x.at_) ∧ W.cell? ⟨b', o' + 5, none⟩ = some (.slice pa AN ca) ∧ Hid (Below w.heap.size w W)) (by kernel_rfl) ?_ (fun hHeld => ?_)
      · exact ⟨z2, z3, z4, y0, y1, y2, y3, y4, y5, Lib.hid (HB1.out).drew⟩
      clear z2 z3 z4 y0 y1 y2 y3 y4 y5
      refine wpAnyH_take (i := 0) (oi := ⟨some 60, _, _, _, _, _⟩) (v := ?_) rfl (by kernel_rfl) (by kernel_rfl) (by kernel_rfl) (fun _ _ _ h => h) (Or.inl ⟨by rfl, ?_⟩) (by assumption) ?_
      rotate_left
      · (intro w hSw; (try dsimp only at hSw); go_simp; (try with_reducible rfl))
      try simp only [Act.put, List.setIfInBounds_toArray, List.set_cons_zero, List.set_cons_succ]
      refine wpAnyH_take (i := 1) (oi := ⟨some 61, _, _, _, _, _⟩) (v := ?_) rfl (by kernel_rfl) (by kernel_rfl) (by kernel_rfl) (fun _ _ _ h => h) (Or.inl ⟨by rfl, ?_⟩) (by assumption) ?_
      rotate_left
      · (intro w hSw; (try dsimp only at hSw); go_simp; (try with_reducible rfl))
      try simp only [Act.put, List.setIfInBounds_toArray, List.set_cons_zero, List.set_cons_succ]
      refine wpAnyH_take (i := 2) (oi := ⟨some 62, _, _, _, _, _⟩) (v := ?_) rfl (by kernel_rfl) (by kernel_rfl) (by kernel_rfl) (fun _ _ _ h => h) (Or.inl ⟨by rfl, ?_⟩) (by assumption) ?_
      rotate_left
      · (intro w hSw; (try dsimp only at hSw); go_simp; (try with_reducible rfl))
      try simp only [Act.put, List.setIfInBounds_toArray, List.set_cons_zero, List.set_cons_succ]
      refine wpAnyH_take (i := 3) (oi := ⟨some 63, _, _, _, _, _⟩) (v := ?_) rfl (by kernel_rfl) (by kernel_rfl) (by kernel_rfl) (fun _ _ _ h => h) (Or.inl ⟨by rfl, ?_⟩) (by assumption) ?_
      rotate_left
      · (intro w hSw; (try dsimp only at hSw); go_simp; (try with_reducible rfl))
      try simp only [Act.put, List.setIfInBounds_toArray, List.set_cons_zero, List.set_cons_succ]
      refine wpAnyH_take (i := 4) (oi := ⟨some 64, _, _, _, _, _⟩) (v := ?_) rfl (by kernel_rfl) (by kernel_rfl) (by kernel_rfl) (fun _ _ _ h => h) (Or.inl ⟨by rfl, ?_⟩) (by assumption) ?_
      rotate_left
      · (intro w hSw; (try dsimp only at hSw); go_simp; (try with_reducible rfl))
      try simp only [Act.put, List.setIfInBounds_toArray, List.set_cons_zero, List.set_cons_succ]
      refine wpAnyH_take (i := 9) (oi := ⟨some 69, _, _, _, _, _⟩) (v := ?_) rfl (by kernel_rfl) (by kernel_rfl) (by kernel_rfl) (fun _ _ _ h => h) (Or.inl ⟨by rfl, ?_⟩) (by assumption) ?_
      rotate_left
      · (intro w hSw; (try dsimp only at hSw); go_simp; (try with_reducible rfl))
      try simp only [Act.put, List.setIfInBounds_toArray, List.set_cons_zero, List.set_cons_succ]
      refine wpAnyH_take (i := 10) (oi := ⟨some 70, _, _, _, _, _⟩) (v := ?_) rfl (by kernel_rfl) (by kernel_rfl) (by kernel_rfl) (fun _ _ _ h => h) (Or.inl ⟨by rfl, ?_⟩) (by assumption) ?_
      rotate_left
      · (intro w hSw; (try dsimp only at hSw); go_simp; (try with_reducible rfl))
      try simp only [Act.put, List.setIfInBounds_toArray, List.set_cons_zero, List.set_cons_succ]
      refine wpAnyH_take (i := 11) (oi := ⟨some 71, _, _, _, _, _⟩) (v := ?_) rfl (by kernel_rfl) (by kernel_rfl) (by kernel_rfl) (fun _ _ _ h => h) (Or.inl ⟨by rfl, ?_⟩) (by assumption) ?_
      rotate_left
      · (intro w hSw; (try dsimp only at hSw); go_simp; (try with_reducible rfl))
      try simp only [Act.put, List.setIfInBounds_toArray, List.set_cons_zero, List.set_cons_succ]
      refine wpAnyH_take (i := 12) (oi := ⟨some 72, _, _, _, _, _⟩) (v := ?_) rfl (by kernel_rfl) (by kernel_rfl) (by kernel_rfl) (fun _ _ _ h => h) (Or.inl ⟨by rfl, ?_⟩) (by assumption) ?_
      rotate_left
      · (intro w hSw; (try dsimp only at hSw); go_simp; (try with_reducible rfl))
      try simp only [Act.put, List.setIfInBounds_toArray, List.set_cons_zero, List.set_cons_succ]
      refine wpAnyH_ready (rs := [5]) (by kernel_rfl) (by simp) ?_
      refine AllReadyH.cons (o := ⟨some 65, _, _, _, _, _⟩) rfl (fun K hK => ?_) AllReadyH.nil
      go_simp
      with_reducible refine (KA.out _ hHeld.2.2.2.2.2.2.2.2.2.out).mono ?_
      rintro e w' ⟨rfl, hb⟩
      go_wp2_with fail
      refine hK.out _ _ ?_ (fun hHeld => ?_)
      · exact ⟨cell_keep' hb hHeld.1, cell_keep' hb hHeld.2.1, cell_keep' hb hHeld.2.2.1, cell_keep' hb hHeld.2.2.2.1, cell_keep' hb hHeld.2.2.2.2.1, cell_keep' hb hHeld.2.2.2.2.2.1, cell_keep' hb hHeld.2.2.2.2.2.2.1, cell_keep' hb hHeld.2.2.2.2.2.2.2.1, cell_keep' hb hHeld.2.2.2.2.2.2.2.2.1, Lib.hid (below_next hHeld.2.2.2.2.2.2.2.2.2.out hb)⟩
      clear hK K
      try simp only [Act.put, List.setIfInBounds_toArray, List.set_cons_zero, List.set_cons_succ]
      clear hb
      refine wpAnyH_take (i := 6) (oi := ⟨some 66, _, _, _, _, _⟩) (v := ?_) rfl (by kernel_rfl) (by kernel_rfl) (by kernel_rfl) (fun _ _ _ h => h) (Or.inl ⟨by rfl, ?_⟩) (by assumption) ?_
      rotate_left
      · (intro w hSw; (try dsimp only at hSw); go_simp; (try with_reducible rfl))
      try simp only [Act.put, List.setIfInBounds_toArray, List.set_cons_zero, List.set_cons_succ]
      refine wpAnyH_take (i := 7) (oi := ⟨some 67, _, _, _, _, _⟩) (v := ?_) rfl (by kernel_rfl) (by kernel_rfl) (by kernel_rfl) (fun _ _ _ h => h) (Or.inl ⟨by rfl, ?_⟩) (by assumption) ?_
      rotate_left
      · (intro w hSw; (try dsimp only at hSw); go_simp; (try with_reducible rfl))
      try simp only [Act.put, List.setIfInBounds_toArray, List.set_cons_zero, List.set_cons_succ]
      refine wpAnyH_ready (rs := [8]) (by kernel_rfl) (by simp) ?_
      refine AllReadyH.cons (o := ⟨some 68, _, _, _, _, _⟩) rfl (fun K hK => ?_) AllReadyH.nil
      go_simp
      with_reducible refine (KL.out _).mono ?_
      rintro e w' ⟨rfl, hb⟩
      go_wp2_with fail
      refine hK.out _ _ ?_ (fun hHeld => ?_)
      · exact ⟨cell_keep' hb hHeld.1, cell_keep' hb hHeld.2.1, cell_keep' hb hHeld.2.2.1, cell_keep' hb hHeld.2.2.2.1, cell_keep' hb hHeld.2.2.2.2.1, cell_keep' hb hHeld.2.2.2.2.2.1, cell_keep' hb hHeld.2.2.2.2.2.2.1, cell_keep' hb hHeld.2.2.2.2.2.2.2.1, cell_keep' hb hHeld.2.2.2.2.2.2.2.2.1, Lib.hid (below_next hHeld.2.2.2.2.2.2.2.2.2.out hb)⟩
      clear hK K
      try simp only [Act.put, List.setIfInBounds_toArray, List.set_cons_zero, List.set_cons_succ]
      clear hb
      refine wpAnyH_ready (rs := [13]) (by kernel_rfl) (by simp) ?_
      refine AllReadyH.cons (o := ⟨some 73, _, _, _, _, _⟩) rfl (fun K hK => ?_) AllReadyH.nil
      go_simp
      with_reducible refine (KB1.out _ hHeld.2.2.2.2.2.2.2.2.2.out).mono ?_
      rintro e w' ⟨rfl, hb⟩
      go_wp2_with fail
      refine hK.out _ _ ?_ (fun hHeld => ?_)
      · exact ⟨cell_keep' hb hHeld.1, cell_keep' hb hHeld.2.1, cell_keep' hb hHeld.2.2.1, cell_keep' hb hHeld.2.2.2.1, cell_keep' hb hHeld.2.2.2.2.1, cell_keep' hb hHeld.2.2.2.2.2.1, cell_keep' hb hHeld.2.2.2.2.2.2.1, cell_keep' hb hHeld.2.2.2.2.2.2.2.1, cell_keep' hb hHeld.2.2.2.2.2.2.2.2.1, Lib.hid (below_next hHeld.2.2.2.2.2.2.2.2.2.out hb)⟩
      clear hK K
      try simp only [Act.put, List.setIfInBounds_toArray, List.set_cons_zero, List.set_cons_succ]
      clear hb
      refine wpAnyH_take (i := 14) (oi := ⟨some 74, _, _, _, _, _⟩) (v := ?_) rfl (by kernel_rfl) (by kernel_rfl) (by kernel_rfl) (fun _ _ _ h => h) (Or.inl ⟨by rfl, ?_⟩) (by assumption) ?_
      rotate_left
      · (intro w hSw; (try dsimp only at hSw); go_simp; (try with_reducible rfl))
      try simp only [Act.put, List.setIfInBounds_toArray, List.set_cons_zero, List.set_cons_succ]
      refine wpAnyH_take (i := 15) (oi := ⟨some 5, _, _, _, _, _⟩) (v := ?_) rfl (by kernel_rfl) (by kernel_rfl) (by kernel_rfl) (fun _ _ _ h => h) (Or.inl ⟨by rfl, ?_⟩) (by assumption) ?_
      rotate_left
      · (intro w hSw; (try dsimp only at hSw); go_simp; (try with_reducible rfl))
      try simp only [Act.put, List.setIfInBounds_toArray, List.set_cons_zero, List.set_cons_succ]
      refine wpAnyH_done (by kernel_rfl) ?_ _
      have HZ := Lib.hid hHeld.2.2.2.2.2.2.2.2.2.out
      have z4 := hHeld.2.2.1
      clear hHeld
      go_wp2_with fail
      refine (KR.out _).mono ?_
      rintro e' w3 ⟨rfl, hb3⟩
      have HZ := Lib.hid (below_next HZ.out hb3)
      clear hb3
      go_wp2_with fail
      go_ret
      exact ⟨rfl, HZ.out⟩
  · obtain ⟨x, rfl⟩ : ∃ x, xs = [x] := by
      match xs, HN.out with
      | [x], _ => exact ⟨x, rfl⟩
    change (Sy.line deep ([119, 104, 105, 108, 101, 32] ++ (Sy.text x) ++ [32, 123]) ++ Sy.stmts (deep + 1) bs ++ Sy.line deep [125]).length ≤ _ at hl
    show Calls _ _ _ _ (fun r w' => r = .returned (.string ⟨(Sy.line deep ([119, 104, 105, 108, 101, 32] ++ (Sy.text x) ++ [32, 123]) ++ Sy.stmts (deep + 1) bs ++ Sy.line deep [125]).toArray⟩) ∧ _)
    obtain ⟨b', o', pa, AN, ca, rfl, hAN, hc, hsl⟩ := argAt HS.out (j := 0) (x := x) rfl
    obtain ⟨y0, y1, y2, y3, y4, y5⟩ := hc.keep HB1.out
    simp only [Nat.zero_mul, Nat.add_zero] at y0 y1 y2 y3 y4 y5
    simp only [List.length_append, List.length_cons, List.length_nil, Sy.line_len] at hl
    have KA := Lib.hid (KT0.out x pa AN ca (by simp) hAN hsl (by omega))
    unfold exprV at KA
    have KL := Lib.hid (KL0.out (⟨#[119, 104, 105, 108, 101, 32]⟩ ++ ⟨((Sy.text x)).toArray⟩ ++ ⟨#[32, 123]⟩) ([119, 104, 105, 108, 101, 32] ++ (Sy.text x) ++ [32, 123]) (by simp only [ByteArray.size_append]; simp only [mk_size]; first | (simp; omega) | omega) (by rw [app_list, app_list]))
    have KR := Lib.hid (KL0.out (⟨#[125]⟩) ([125]) (by decide) rfl)
    have KB1 := Lib.hid (KB.out (by omega))
    obtain ⟨A, hA⟩ : ∃ A : ByteArray, ⟨(Sy.text x).toArray⟩ = A := ⟨_, rfl⟩
    have hAl : A.size ≤ 1000000000 := by rw [← hA]; show (Sy.text x).length ≤ _; omega
    rw [hA] at KA KL
    obtain ⟨L1, hL1⟩ : ∃ A : ByteArray, ⟨(Sy.line deep ([119, 104, 105, 108, 101, 32] ++ (Sy.text x) ++ [32, 123])).toArray⟩ = A := ⟨_, rfl⟩
    have hL1l : L1.size ≤ 1000000000 := by rw [← hL1]; show (Sy.line deep ([119, 104, 105, 108, 101, 32] ++ (Sy.text x) ++ [32, 123])).length ≤ _; simp only [Sy.line_len, List.length_append, List.length_cons, List.length_nil]; omega
    rw [hL1] at KL
    obtain ⟨B, hB⟩ : ∃ A : ByteArray, ⟨(Sy.stmts (deep + 1) bs).toArray⟩ = A := ⟨_, rfl⟩
    have hBl : B.size ≤ 1000000000 := by rw [← hB]; show (Sy.stmts (deep + 1) bs).length ≤ _; omega
    rw [hB] at KB1
    obtain ⟨L2, hL2⟩ : ∃ A : ByteArray, ⟨(Sy.line deep [125]).toArray⟩ = A := ⟨_, rfl⟩
    have hL2l : L2.size ≤ 1000000000 := by rw [← hL2]; show (Sy.line deep [125]).length ≤ _; simp only [Sy.line_len, List.length_cons, List.length_nil]; omega
    rw [hL2] at KR
    have HF : Hid (L1 ++ B ++ L2 = ⟨(Sy.line deep ([119, 104, 105, 108, 101, 32] ++ (Sy.text x) ++ [32, 123]) ++ Sy.stmts (deep + 1) bs ++ Sy.line deep [125]).toArray⟩) := by show _ = _; rw [← hL1, ← hB, ← hL2, mk_app, mk_app]
    rw [← HF.out]
    have k1 : ¬ 9223372036854775807 < 6 + A.size := by omega
    have k2 : ¬ 9223372036854775807 < 6 + A.size + 2 := by omega
    have g0 : ¬ 9223372036854775807 < L1.size + B.size := by omega
    have g1 : ¬ 9223372036854775807 < L1.size + B.size + L2.size := by omega
    have bw : IntKind.i64.wrap ((deep : Int) + 1) = (deep : Int) + 1 := IntWalk.i64_in _ (by have := HDD.out; omega)
    have z0 := cell_of_blkP HC1.out (j := 0) (u := .int .i64 4) rfl
    have z2 := cell_of_blkP HC1.out (j := 2) (u := .slice (some ⟨b', o', none⟩) 1 cx) rfl
    have z3 := cell_of_blkP HC1.out (j := 3) (u := .slice py YN cy) rfl
    have hl1 := cell_lt' z0
    have hl2 := cell_lt' y0
    clear hl HF hA hAl hAN hc hsl hnml hL1 hL1l hB hBl hL2 hL2l
    go_enter Tryz.func97, Tryz.ntmps97
    go_upto_region 14 with fail
    rw [← HW1.out]
    clear HW1
    refine wp_region_held_drew (S := fun W => W.cell? ⟨w.heap.size, 2, none⟩ = some (.slice (some ⟨b', o', none⟩) 1 cx) ∧ W.cell? ⟨w.heap.size, 3, none⟩ = some (.slice py YN cy) ∧ W.cell? ⟨b', o', none⟩ = some (.int .i64 x.kind) ∧ W.cell? ⟨b', o' + 1, none⟩ = some (.int .i64 x.op) ∧ W.cell? ⟨b', o' + 2, none⟩ = some (.int .i64 x.int) ∧ W.cell? ⟨b', o' + 3, none⟩ = some (.string x.name) ∧ W.cell? ⟨b', o' + 4, none⟩ = some (.bool x.at_) ∧ W.cell? ⟨b', o' + 5, none⟩ = some (.slice pa AN ca) ∧ Hid (Below w.heap.size w W)) (by kernel_rfl) ?_ (fun hHeld => ?_)
    · exact ⟨z2, z3, y0, y1, y2, y3, y4, y5, Lib.hid (HB1.out).drew⟩
    clear z2 z3 y0 y1 y2 y3 y4 y5
    refine wpAnyH_take (i := 0) (oi := ⟨some 95, _, _, _, _, _⟩) (v := ?_) rfl (by kernel_rfl) (by kernel_rfl) (by kernel_rfl) (fun _ _ _ h => h) (Or.inl ⟨by rfl, ?_⟩) (by assumption) ?_
    rotate_left
    · (intro w hSw; (try dsimp only at hSw); go_simp; (try with_reducible rfl))
    try simp only [Act.put, List.setIfInBounds_toArray, List.set_cons_zero, List.set_cons_succ]
    refine wpAnyH_take (i := 1) (oi := ⟨some 96, _, _, _, _, _⟩) (v := ?_) rfl (by kernel_rfl) (by kernel_rfl) (by kernel_rfl) (fun _ _ _ h => h) (Or.inl ⟨by rfl, ?_⟩) (by assumption) ?_
    rotate_left
    · (intro w hSw; (try dsimp only at hSw); go_simp; (try with_reducible rfl))
    try simp only [Act.put, List.setIfInBounds_toArray, List.set_cons_zero, List.set_cons_succ]
    refine wpAnyH_take (i := 2) (oi := ⟨some 97, _, _, _, _, _⟩) (v := ?_) rfl (by kernel_rfl) (by kernel_rfl) (by kernel_rfl) (fun _ _ _ h => h) (Or.inl ⟨by rfl, ?_⟩) (by assumption) ?_
    rotate_left
    · (intro w hSw; (try dsimp only at hSw); go_simp; (try with_reducible rfl))
    try simp only [Act.put, List.setIfInBounds_toArray, List.set_cons_zero, List.set_cons_succ]
    refine wpAnyH_take (i := 3) (oi := ⟨some 98, _, _, _, _, _⟩) (v := ?_) rfl (by kernel_rfl) (by kernel_rfl) (by kernel_rfl) (fun _ _ _ h => h) (Or.inl ⟨by rfl, ?_⟩) (by assumption) ?_
    rotate_left
    · (intro w hSw; (try dsimp only at hSw); go_simp; (try with_reducible rfl))
    try simp only [Act.put, List.setIfInBounds_toArray, List.set_cons_zero, List.set_cons_succ]
    refine wpAnyH_take (i := 4) (oi := ⟨some 99, _, _, _, _, _⟩) (v := ?_) rfl (by kernel_rfl) (by kernel_rfl) (by kernel_rfl) (fun _ _ _ h => h) (Or.inl ⟨by rfl, ?_⟩) (by assumption) ?_
    rotate_left
    · (intro w hSw; (try dsimp only at hSw); go_simp; (try with_reducible rfl))
    try simp only [Act.put, List.setIfInBounds_toArray, List.set_cons_zero, List.set_cons_succ]
    refine wpAnyH_take (i := 9) (oi := ⟨some 104, _, _, _, _, _⟩) (v := ?_) rfl (by kernel_rfl) (by kernel_rfl) (by kernel_rfl) (fun _ _ _ h => h) (Or.inl ⟨by rfl, ?_⟩) (by assumption) ?_
    rotate_left
    · (intro w hSw; (try dsimp only at hSw); go_simp; (try with_reducible rfl))
    try simp only [Act.put, List.setIfInBounds_toArray, List.set_cons_zero, List.set_cons_succ]
    refine wpAnyH_take (i := 10) (oi := ⟨some 105, _, _, _, _, _⟩) (v := ?_) rfl (by kernel_rfl) (by kernel_rfl) (by kernel_rfl) (fun _ _ _ h => h) (Or.inl ⟨by rfl, ?_⟩) (by assumption) ?_
    rotate_left
    · (intro w hSw; (try dsimp only at hSw); go_simp; (try with_reducible rfl))
    try simp only [Act.put, List.setIfInBounds_toArray, List.set_cons_zero, List.set_cons_succ]
    refine wpAnyH_take (i := 11) (oi := ⟨some 106, _, _, _, _, _⟩) (v := ?_) rfl (by kernel_rfl) (by kernel_rfl) (by kernel_rfl) (fun _ _ _ h => h) (Or.inl ⟨by rfl, ?_⟩) (by assumption) ?_
    rotate_left
    · (intro w hSw; (try dsimp only at hSw); go_simp; (try with_reducible rfl))
    try simp only [Act.put, List.setIfInBounds_toArray, List.set_cons_zero, List.set_cons_succ]
    refine wpAnyH_take (i := 12) (oi := ⟨some 107, _, _, _, _, _⟩) (v := ?_) rfl (by kernel_rfl) (by kernel_rfl) (by kernel_rfl) (fun _ _ _ h => h) (Or.inl ⟨by rfl, ?_⟩) (by assumption) ?_
    rotate_left
    · (intro w hSw; (try dsimp only at hSw); go_simp; (try with_reducible rfl))
    try simp only [Act.put, List.setIfInBounds_toArray, List.set_cons_zero, List.set_cons_succ]
    refine wpAnyH_take (i := 15) (oi := ⟨some 110, _, _, _, _, _⟩) (v := ?_) rfl (by kernel_rfl) (by kernel_rfl) (by kernel_rfl) (fun _ _ _ h => h) (Or.inl ⟨by rfl, ?_⟩) (by assumption) ?_
    rotate_left
    · (intro w hSw; (try dsimp only at hSw); go_simp; (try with_reducible rfl))
    try simp only [Act.put, List.setIfInBounds_toArray, List.set_cons_zero, List.set_cons_succ]
    refine wpAnyH_ready (rs := [5]) (by kernel_rfl) (by simp) ?_
    refine AllReadyH.cons (o := ⟨some 100, _, _, _, _, _⟩) rfl (fun K hK => ?_) AllReadyH.nil
    go_simp
    with_reducible refine (KA.out _ hHeld.2.2.2.2.2.2.2.2.out).mono ?_
    rintro e w' ⟨rfl, hb⟩
    go_wp2_with fail
    refine hK.out _ _ ?_ (fun hHeld => ?_)
    · exact ⟨cell_keep' hb hHeld.1, cell_keep' hb hHeld.2.1, cell_keep' hb hHeld.2.2.1, cell_keep' hb hHeld.2.2.2.1, cell_keep' hb hHeld.2.2.2.2.1, cell_keep' hb hHeld.2.2.2.2.2.1, cell_keep' hb hHeld.2.2.2.2.2.2.1, cell_keep' hb hHeld.2.2.2.2.2.2.2.1, Lib.hid (below_next hHeld.2.2.2.2.2.2.2.2.out hb)⟩
    clear hK K
    try simp only [Act.put, List.setIfInBounds_toArray, List.set_cons_zero, List.set_cons_succ]
    clear hb
    refine wpAnyH_take (i := 6) (oi := ⟨some 101, _, _, _, _, _⟩) (v := ?_) rfl (by kernel_rfl) (by kernel_rfl) (by kernel_rfl) (fun _ _ _ h => h) (Or.inl ⟨by rfl, ?_⟩) (by assumption) ?_
    rotate_left
    · (intro w hSw; (try dsimp only at hSw); go_simp; (try with_reducible rfl))
    try simp only [Act.put, List.setIfInBounds_toArray, List.set_cons_zero, List.set_cons_succ]
    refine wpAnyH_take (i := 7) (oi := ⟨some 102, _, _, _, _, _⟩) (v := ?_) rfl (by kernel_rfl) (by kernel_rfl) (by kernel_rfl) (fun _ _ _ h => h) (Or.inl ⟨by rfl, ?_⟩) (by assumption) ?_
    rotate_left
    · (intro w hSw; (try dsimp only at hSw); go_simp; (try with_reducible rfl))
    try simp only [Act.put, List.setIfInBounds_toArray, List.set_cons_zero, List.set_cons_succ]
    refine wpAnyH_ready (rs := [8]) (by kernel_rfl) (by simp) ?_
    refine AllReadyH.cons (o := ⟨some 103, _, _, _, _, _⟩) rfl (fun K hK => ?_) AllReadyH.nil
    go_simp
    with_reducible refine (KL.out _).mono ?_
    rintro e w' ⟨rfl, hb⟩
    go_wp2_with fail
    refine hK.out _ _ ?_ (fun hHeld => ?_)
    · exact ⟨cell_keep' hb hHeld.1, cell_keep' hb hHeld.2.1, cell_keep' hb hHeld.2.2.1, cell_keep' hb hHeld.2.2.2.1, cell_keep' hb hHeld.2.2.2.2.1, cell_keep' hb hHeld.2.2.2.2.2.1, cell_keep' hb hHeld.2.2.2.2.2.2.1, cell_keep' hb hHeld.2.2.2.2.2.2.2.1, Lib.hid (below_next hHeld.2.2.2.2.2.2.2.2.out hb)⟩
    clear hK K
    try simp only [Act.put, List.setIfInBounds_toArray, List.set_cons_zero, List.set_cons_succ]
    clear hb
    refine wpAnyH_ready (rs := [13]) (by kernel_rfl) (by simp) ?_
    refine AllReadyH.cons (o := ⟨some 108, _, _, _, _, _⟩) rfl (fun K hK => ?_) AllReadyH.nil
    go_simp
    with_reducible refine (KB1.out _ hHeld.2.2.2.2.2.2.2.2.out).mono ?_
    rintro e w' ⟨rfl, hb⟩
    go_wp2_with fail
    refine hK.out _ _ ?_ (fun hHeld => ?_)
    · exact ⟨cell_keep' hb hHeld.1, cell_keep' hb hHeld.2.1, cell_keep' hb hHeld.2.2.1, cell_keep' hb hHeld.2.2.2.1, cell_keep' hb hHeld.2.2.2.2.1, cell_keep' hb hHeld.2.2.2.2.2.1, cell_keep' hb hHeld.2.2.2.2.2.2.1, cell_keep' hb hHeld.2.2.2.2.2.2.2.1, Lib.hid (below_next hHeld.2.2.2.2.2.2.2.2.out hb)⟩
    clear hK K
    try simp only [Act.put, List.setIfInBounds_toArray, List.set_cons_zero, List.set_cons_succ]
    clear hb
    refine wpAnyH_take (i := 14) (oi := ⟨some 109, _, _, _, _, _⟩) (v := ?_) rfl (by kernel_rfl) (by kernel_rfl) (by kernel_rfl) (fun _ _ _ h => h) (Or.inl ⟨by rfl, ?_⟩) (by assumption) ?_
    rotate_left
    · (intro w hSw; (try dsimp only at hSw); go_simp; (try with_reducible rfl))
    try simp only [Act.put, List.setIfInBounds_toArray, List.set_cons_zero, List.set_cons_succ]
    refine wpAnyH_ready (rs := [16]) (by kernel_rfl) (by simp) ?_
    refine AllReadyH.cons (o := ⟨some 111, _, _, _, _, _⟩) rfl (fun K hK => ?_) AllReadyH.nil
    go_simp
    with_reducible refine (KR.out _).mono ?_
    rintro e w' ⟨rfl, hb⟩
    go_wp2_with fail
    refine hK.out _ _ ?_ (fun hHeld => ?_)
    · exact ⟨cell_keep' hb hHeld.1, cell_keep' hb hHeld.2.1, cell_keep' hb hHeld.2.2.1, cell_keep' hb hHeld.2.2.2.1, cell_keep' hb hHeld.2.2.2.2.1, cell_keep' hb hHeld.2.2.2.2.2.1, cell_keep' hb hHeld.2.2.2.2.2.2.1, cell_keep' hb hHeld.2.2.2.2.2.2.2.1, Lib.hid (below_next hHeld.2.2.2.2.2.2.2.2.out hb)⟩
    clear hK K
    try simp only [Act.put, List.setIfInBounds_toArray, List.set_cons_zero, List.set_cons_succ]
    clear hb
    refine wpAnyH_take (i := 17) (oi := ⟨some 112, _, _, _, _, _⟩) (v := ?_) rfl (by kernel_rfl) (by kernel_rfl) (by kernel_rfl) (fun _ _ _ h => h) (Or.inl ⟨by rfl, ?_⟩) (by assumption) ?_
    rotate_left
    · (intro w hSw; (try dsimp only at hSw); go_simp; (try with_reducible rfl))
    try simp only [Act.put, List.setIfInBounds_toArray, List.set_cons_zero, List.set_cons_succ]
    refine wpAnyH_take (i := 18) (oi := ⟨some 4, _, _, _, _, _⟩) (v := ?_) rfl (by kernel_rfl) (by kernel_rfl) (by kernel_rfl) (fun _ _ _ h => h) (Or.inl ⟨by rfl, ?_⟩) (by assumption) ?_
    rotate_left
    · (intro w hSw; (try dsimp only at hSw); go_simp; (try with_reducible rfl))
    try simp only [Act.put, List.setIfInBounds_toArray, List.set_cons_zero, List.set_cons_succ]
    refine wpAnyH_done (by kernel_rfl) ?_ _
    have HZ := Lib.hid hHeld.2.2.2.2.2.2.2.2.out
    clear hHeld
    go_wp2_with fail
    go_ret
    exact ⟨rfl, HZ.out⟩
  · obtain ⟨x, xr, rfl⟩ : ∃ x xr, xs = x :: xr := by
      match xs, HN.out with
      | x :: xr, _ => exact ⟨x, xr, rfl⟩
      | [], h0 => simp at h0; omega
    have hmm : (xr.map fun e => (Sy.level e, Sy.text e)).map Prod.snd = xr.map Sy.text := by rw [List.map_map]; rfl
    change (Sy.line deep ([115, 101, 110, 100, 32] ++ Sy.par 8 (Sy.level x, Sy.text x) ++ [46] ++ nm.data.toList ++ [40] ++ Sy.commas ((xr.map fun e => (Sy.level e, Sy.text e)).map Prod.snd) ++ [41] ++ [59])).length ≤ _ at hl
    show Calls _ _ _ _ (fun r w' => r = .returned (.string ⟨(Sy.line deep ([115, 101, 110, 100, 32] ++ Sy.par 8 (Sy.level x, Sy.text x) ++ [46] ++ nm.data.toList ++ [40] ++ Sy.commas ((xr.map fun e => (Sy.level e, Sy.text e)).map Prod.snd) ++ [41] ++ [59])).toArray⟩) ∧ _)
    rw [hmm] at hl ⊢
    clear hmm
    simp only [List.length_append, List.length_cons, List.length_nil, Sy.line_len] at hl
    obtain ⟨b', o', pa, AN, ca, rfl, hAN, hc, hsl⟩ := argAt HS.out (j := 0) (x := x) rfl
    obtain ⟨y0, y1, y2, y3, y4, y5⟩ := hc.keep HB1.out
    simp only [Nat.zero_mul, Nat.add_zero] at y0 y1 y2 y3 y4 y5
    have hm : x ∈ x :: xr := by simp
    have hst := HS.out.tail (by rw [HN.out]; omega)
    obtain ⟨pd, hpd⟩ : ∃ q, (if cx = 1 then (some ⟨b', o', none⟩ : Option Addr) else some ⟨b', o' + 6, none⟩) = q := ⟨_, rfl⟩
    rw [hpd] at hst
    have hxl : xr.length = XN - 1 := by have h9 := HN.out; simp only [List.length_cons] at h9; omega
    have KD : Hid (∀ W, Below w.heap.size w W → Calls Tryz.prog 81 #[.slice pd (XN - 1) (cx - 1)] W fun r w' => r = .returned (.string ⟨(Sy.commas (xr.map Sy.text)).toArray⟩) ∧ Below W.heap.size W w') := fun W hb => refList_of (refText_any (Tr.E.deep.deeps xr)) xr pd (XN - 1) (cx - 1) W (fun y hy => by obtain ⟨q, hq⟩ := List.getElem?_of_mem hy; exact Tr.E.deeps_get _ q y hq) (fun y hy => HV.out y (by simp [hy])) hxl (hst.keep hb) (by omega)
    have hpgA := Sy.par_long 8 (Sy.level x, Sy.text x)
    simp only [] at hpgA
    have KA := Lib.hid (KI0.out x pa AN ca 8 (by simp) hAN hsl (by omega))
    unfold exprV at KA
    rw [show ((8 : Nat) : Int) = 8 from rfl] at KA
    have KL := Lib.hid (KL0.out (⟨#[115, 101, 110, 100, 32]⟩ ++ ⟨((Sy.par 8 (Sy.level x, Sy.text x))).toArray⟩ ++ ⟨#[46]⟩ ++ nm ++ ⟨#[40]⟩ ++ ⟨((Sy.commas (xr.map Sy.text))).toArray⟩ ++ ⟨#[41, 59]⟩) ([115, 101, 110, 100, 32] ++ (Sy.par 8 (Sy.level x, Sy.text x)) ++ [46] ++ nm.data.toList ++ [40] ++ (Sy.commas (xr.map Sy.text)) ++ [41, 59]) (by simp only [ByteArray.size_append]; simp only [mk_size]; first | (simp; omega) | omega) (by rw [app_list, app_list, app_list, app_list, app_list, app_list]))
    have HT : Hid ((⟨(Sy.line deep ([115, 101, 110, 100, 32] ++ Sy.par 8 (Sy.level x, Sy.text x) ++ [46] ++ nm.data.toList ++ [40] ++ Sy.commas (xr.map Sy.text) ++ [41] ++ [59])).toArray⟩ : ByteArray) = ⟨(Sy.line deep ([115, 101, 110, 100, 32] ++ (Sy.par 8 (Sy.level x, Sy.text x)) ++ [46] ++ nm.data.toList ++ [40] ++ (Sy.commas (xr.map Sy.text)) ++ [41, 59])).toArray⟩) := by show _ = _; first | rfl | (rw [List.append_assoc]; rfl)
    rw [← HT.out] at KL
    clear HT
    obtain ⟨A, hA⟩ : ∃ A : ByteArray, ⟨(Sy.par 8 (Sy.level x, Sy.text x)).toArray⟩ = A := ⟨_, rfl⟩
    have hAl : A.size ≤ 1000000000 := by rw [← hA]; show (Sy.par 8 (Sy.level x, Sy.text x)).length ≤ _; omega
    rw [hA] at KA KL
    obtain ⟨D, hD⟩ : ∃ A : ByteArray, ⟨(Sy.commas (xr.map Sy.text)).toArray⟩ = A := ⟨_, rfl⟩
    have hDl : D.size ≤ 1000000000 := by rw [← hD]; show (Sy.commas (xr.map Sy.text)).length ≤ _; omega
    rw [hD] at KD KL
    obtain ⟨R, hR⟩ : ∃ A : ByteArray, ⟨(Sy.line deep ([115, 101, 110, 100, 32] ++ Sy.par 8 (Sy.level x, Sy.text x) ++ [46] ++ nm.data.toList ++ [40] ++ Sy.commas (xr.map Sy.text) ++ [41] ++ [59])).toArray⟩ = A := ⟨_, rfl⟩
    rw [hR] at KL ⊢
    have k1 : ¬ 9223372036854775807 < 5 + A.size := by omega
    have k2 : ¬ 9223372036854775807 < 5 + A.size + 1 := by omega
    have k3 : ¬ 9223372036854775807 < 5 + A.size + 1 + nm.size := by omega
    have k4 : ¬ 9223372036854775807 < 5 + A.size + 1 + nm.size + 1 := by omega
    have k5 : ¬ 9223372036854775807 < 5 + A.size + 1 + nm.size + 1 + D.size := by omega
    have k6 : ¬ 9223372036854775807 < 5 + A.size + 1 + nm.size + 1 + D.size + 2 := by omega
    have hxc1 : 1 ≤ cx := by
      obtain ⟨q1, c1, e1, h1⟩ := HS.out.form
      have h2 := (h1 (by simp)).1
      injection e1 with _ ea eb
      have h3 := HN.out
      simp only [List.length_cons] at h2 h3
      omega
    have hxn1 : 1 ≤ XN := by omega
    have hxn2 : (1 : Int) ≤ ((XN : Nat) : Int) := by omega
    have hxn3 : (0 : Int) < ((XN : Nat) : Int) := by omega
    have hxn4 : 0 < XN := by omega
    have z0 := cell_of_blkP HC1.out (j := 0) (u := .int .i64 5) rfl
    have z1 := cell_of_blkP HC1.out (j := 1) (u := .string nm) rfl
    have z2 := cell_of_blkP HC1.out (j := 2) (u := .slice (some ⟨b', o', none⟩) XN cx) rfl
    have hl1 := cell_lt' z0
    have hl2 := cell_lt' y0
    clear hl hR hAN hc hsl hnml hA hAl hD hDl hpgA hm hst hxl hn1
    go_enter Tryz.func97, Tryz.ntmps97
    go_upto_region 16 with fail
    rw [← HW1.out]
    clear HW1
    refine wp_region_held_drew (S := fun W => W.cell? ⟨w.heap.size, 1, none⟩ = some (.string nm) ∧ W.cell? ⟨w.heap.size, 2, none⟩ = some (.slice (some ⟨b', o', none⟩) XN cx) ∧ W.cell? ⟨b', o', none⟩ = some (.int .i64 x.kind) ∧ W.cell? ⟨b', o' + 1, none⟩ = some (.int .i64 x.op) ∧ W.cell? ⟨b', o' + 2, none⟩ = some (.int .i64 x.int) ∧ W.cell? ⟨b', o' + 3, none⟩ = some (.string x.name) ∧ W.cell? ⟨b', o' + 4, none⟩ = some (.bool x.at_) ∧ W.cell? ⟨b', o' + 5, none⟩ = some (.slice pa AN ca) ∧ Hid (Below w.heap.size w W)) (by kernel_rfl) ?_ (fun hHeld => ?_)
    · exact ⟨z1, z2, y0, y1, y2, y3, y4, y5, Lib.hid (HB1.out).drew⟩
    clear z1 z2 y0 y1 y2 y3 y4 y5
    refine wpAnyH_take (i := 0) (oi := ⟨some 115, _, _, _, _, _⟩) (v := ?_) rfl (by kernel_rfl) (by kernel_rfl) (by kernel_rfl) (fun _ _ _ h => h) (Or.inl ⟨by rfl, ?_⟩) (by assumption) ?_
    rotate_left
    · (intro w hSw; (try dsimp only at hSw); go_simp; (try with_reducible rfl))
    try simp only [Act.put, List.setIfInBounds_toArray, List.set_cons_zero, List.set_cons_succ]
    refine wpAnyH_take (i := 1) (oi := ⟨some 116, _, _, _, _, _⟩) (v := ?_) rfl (by kernel_rfl) (by kernel_rfl) (by kernel_rfl) (fun _ _ _ h => h) (Or.inl ⟨by rfl, ?_⟩) (by assumption) ?_
    rotate_left
    · (intro w hSw; (try dsimp only at hSw); go_simp; (try with_reducible rfl))
    try simp only [Act.put, List.setIfInBounds_toArray, List.set_cons_zero, List.set_cons_succ]
    refine wpAnyH_take (i := 2) (oi := ⟨some 117, _, _, _, _, _⟩) (v := ?_) rfl (by kernel_rfl) (by kernel_rfl) (by kernel_rfl) (fun _ _ _ h => h) (Or.inl ⟨by rfl, ?_⟩) (by assumption) ?_
    rotate_left
    · (intro w hSw; (try dsimp only at hSw); go_simp; (try with_reducible rfl))
    try simp only [Act.put, List.setIfInBounds_toArray, List.set_cons_zero, List.set_cons_succ]
    refine wpAnyH_take (i := 3) (oi := ⟨some 118, _, _, _, _, _⟩) (v := ?_) rfl (by kernel_rfl) (by kernel_rfl) (by kernel_rfl) (fun _ _ _ h => h) (Or.inl ⟨by rfl, ?_⟩) (by assumption) ?_
    rotate_left
    · (intro w hSw; (try dsimp only at hSw); go_simp; (try with_reducible rfl))
    try simp only [Act.put, List.setIfInBounds_toArray, List.set_cons_zero, List.set_cons_succ]
    refine wpAnyH_take (i := 4) (oi := ⟨some 119, _, _, _, _, _⟩) (v := ?_) rfl (by kernel_rfl) (by kernel_rfl) (by kernel_rfl) (fun _ _ _ h => h) (Or.inl ⟨by rfl, ?_⟩) (by assumption) ?_
    rotate_left
    · (intro w hSw; (try dsimp only at hSw); go_simp; (try with_reducible rfl))
    try simp only [Act.put, List.setIfInBounds_toArray, List.set_cons_zero, List.set_cons_succ]
    refine wpAnyH_take (i := 8) (oi := ⟨some 123, _, _, _, _, _⟩) (v := ?_) rfl (by kernel_rfl) (by kernel_rfl) (by kernel_rfl) (fun _ _ _ h => h) (Or.inl ⟨by rfl, ?_⟩) (by assumption) ?_
    rotate_left
    · (intro w hSw; (try dsimp only at hSw); go_simp; (try with_reducible rfl))
    try simp only [Act.put, List.setIfInBounds_toArray, List.set_cons_zero, List.set_cons_succ]
    refine wpAnyH_take (i := 9) (oi := ⟨some 124, _, _, _, _, _⟩) (v := ?_) rfl (by kernel_rfl) (by kernel_rfl) (by kernel_rfl) (fun _ _ _ h => h) (Or.inl ⟨by rfl, ?_⟩) (by assumption) ?_
    rotate_left
    · (intro w hSw; (try dsimp only at hSw); go_simp; (try with_reducible rfl))
    try simp only [Act.put, List.setIfInBounds_toArray, List.set_cons_zero, List.set_cons_succ]
    refine wpAnyH_take (i := 12) (oi := ⟨some 127, _, _, _, _, _⟩) (v := ?_) rfl (by kernel_rfl) (by kernel_rfl) (by kernel_rfl) (fun _ _ _ h => h) (Or.inl ⟨by rfl, ?_⟩) (by assumption) ?_
    rotate_left
    · (intro w hSw; (try dsimp only at hSw); go_simp; (try with_reducible rfl))
    try simp only [Act.put, List.setIfInBounds_toArray, List.set_cons_zero, List.set_cons_succ]
    refine wpAnyH_take (i := 13) (oi := ⟨some 128, _, _, _, _, _⟩) (v := ?_) rfl (by kernel_rfl) (by kernel_rfl) (by kernel_rfl) (fun _ _ _ h => h) (Or.inl ⟨by rfl, ?_⟩) (by assumption) ?_
    rotate_left
    · (intro w hSw; (try dsimp only at hSw); go_simp; (try with_reducible rfl))
    try simp only [Act.put, List.setIfInBounds_toArray, List.set_cons_zero, List.set_cons_succ]
    refine wpAnyH_take (i := 14) (oi := ⟨some 129, _, _, _, _, _⟩) (v := ?_) rfl (by kernel_rfl) (by kernel_rfl) (by kernel_rfl) (fun _ _ _ h => h) (Or.inl ⟨by rfl, ?_⟩) (by assumption) ?_
    rotate_left
    · (intro w hSw; (try dsimp only at hSw); go_simp; (try with_reducible rfl))
    try simp only [Act.put, List.setIfInBounds_toArray, List.set_cons_zero, List.set_cons_succ]
    refine wpAnyH_ready (rs := [5]) (by kernel_rfl) (by simp) ?_
    refine AllReadyH.cons (o := ⟨some 120, _, _, _, _, _⟩) rfl (fun K hK => ?_) AllReadyH.nil
    go_simp
    with_reducible refine (KA.out _ hHeld.2.2.2.2.2.2.2.2.out).mono ?_
    rintro e w' ⟨rfl, hb⟩
    go_wp2_with fail
    refine hK.out _ _ ?_ (fun hHeld => ?_)
    · exact ⟨cell_keep' hb hHeld.1, cell_keep' hb hHeld.2.1, cell_keep' hb hHeld.2.2.1, cell_keep' hb hHeld.2.2.2.1, cell_keep' hb hHeld.2.2.2.2.1, cell_keep' hb hHeld.2.2.2.2.2.1, cell_keep' hb hHeld.2.2.2.2.2.2.1, cell_keep' hb hHeld.2.2.2.2.2.2.2.1, Lib.hid (below_next hHeld.2.2.2.2.2.2.2.2.out hb)⟩
    clear hK K
    try simp only [Act.put, List.setIfInBounds_toArray, List.set_cons_zero, List.set_cons_succ]
    clear hb
    refine wpAnyH_take (i := 6) (oi := ⟨some 121, _, _, _, _, _⟩) (v := ?_) rfl (by kernel_rfl) (by kernel_rfl) (by kernel_rfl) (fun _ _ _ h => h) (Or.inl ⟨by rfl, ?_⟩) (by assumption) ?_
    rotate_left
    · (intro w hSw; (try dsimp only at hSw); go_simp; (try with_reducible rfl))
    try simp only [Act.put, List.setIfInBounds_toArray, List.set_cons_zero, List.set_cons_succ]
    refine wpAnyH_take (i := 7) (oi := ⟨some 122, _, _, _, _, _⟩) (v := ?_) rfl (by kernel_rfl) (by kernel_rfl) (by kernel_rfl) (fun _ _ _ h => h) (Or.inl ⟨by rfl, ?_⟩) (by assumption) ?_
    rotate_left
    · (intro w hSw; (try dsimp only at hSw); go_simp; (try with_reducible rfl))
    try simp only [Act.put, List.setIfInBounds_toArray, List.set_cons_zero, List.set_cons_succ]
    refine wpAnyH_take (i := 10) (oi := ⟨some 125, _, _, _, _, _⟩) (v := ?_) rfl (by kernel_rfl) (by kernel_rfl) (by kernel_rfl) (fun _ _ _ h => h) (Or.inl ⟨by rfl, ?_⟩) (by assumption) ?_
    rotate_left
    · (intro w hSw; (try dsimp only at hSw); go_simp; (try with_reducible rfl))
    try simp only [Act.put, List.setIfInBounds_toArray, List.set_cons_zero, List.set_cons_succ]
    refine wpAnyH_take (i := 11) (oi := ⟨some 126, _, _, _, _, _⟩) (v := ?_) rfl (by kernel_rfl) (by kernel_rfl) (by kernel_rfl) (fun _ _ _ h => h) (Or.inl ⟨by rfl, ?_⟩) (by assumption) ?_
    rotate_left
    · (intro w hSw; (try dsimp only at hSw); go_simp; (try with_reducible rfl))
    try simp only [Act.put, List.setIfInBounds_toArray, List.set_cons_zero, List.set_cons_succ]
    refine wpAnyH_ready (rs := [15]) (by kernel_rfl) (by simp) ?_
    refine AllReadyH.cons (o := ⟨some 130, _, _, _, _, _⟩) rfl (fun K hK => ?_) AllReadyH.nil
    go_simp
    with_reducible refine (KD.out _ hHeld.2.2.2.2.2.2.2.2.out).mono ?_
    rintro e w' ⟨rfl, hb⟩
    go_wp2_with fail
    refine hK.out _ _ ?_ (fun hHeld => ?_)
    · exact ⟨cell_keep' hb hHeld.1, cell_keep' hb hHeld.2.1, cell_keep' hb hHeld.2.2.1, cell_keep' hb hHeld.2.2.2.1, cell_keep' hb hHeld.2.2.2.2.1, cell_keep' hb hHeld.2.2.2.2.2.1, cell_keep' hb hHeld.2.2.2.2.2.2.1, cell_keep' hb hHeld.2.2.2.2.2.2.2.1, Lib.hid (below_next hHeld.2.2.2.2.2.2.2.2.out hb)⟩
    clear hK K
    try simp only [Act.put, List.setIfInBounds_toArray, List.set_cons_zero, List.set_cons_succ]
    clear hb
    refine wpAnyH_take (i := 16) (oi := ⟨some 131, _, _, _, _, _⟩) (v := ?_) rfl (by kernel_rfl) (by kernel_rfl) (by kernel_rfl) (fun _ _ _ h => h) (Or.inl ⟨by rfl, ?_⟩) (by assumption) ?_
    rotate_left
    · (intro w hSw; (try dsimp only at hSw); go_simp; (try with_reducible rfl))
    try simp only [Act.put, List.setIfInBounds_toArray, List.set_cons_zero, List.set_cons_succ]
    refine wpAnyH_take (i := 17) (oi := ⟨some 132, _, _, _, _, _⟩) (v := ?_) rfl (by kernel_rfl) (by kernel_rfl) (by kernel_rfl) (fun _ _ _ h => h) (Or.inl ⟨by rfl, ?_⟩) (by assumption) ?_
    rotate_left
    · (intro w hSw; (try dsimp only at hSw); go_simp; (try with_reducible rfl))
    try simp only [Act.put, List.setIfInBounds_toArray, List.set_cons_zero, List.set_cons_succ]
    refine wpAnyH_ready (rs := [18]) (by kernel_rfl) (by simp) ?_
    refine AllReadyH.cons (o := ⟨some 133, _, _, _, _, _⟩) rfl (fun K hK => ?_) AllReadyH.nil
    go_simp
    with_reducible refine (KL.out _).mono ?_
    rintro e w' ⟨rfl, hb⟩
    go_wp2_with fail
    refine hK.out _ _ ?_ (fun hHeld => ?_)
    · exact ⟨cell_keep' hb hHeld.1, cell_keep' hb hHeld.2.1, cell_keep' hb hHeld.2.2.1, cell_keep' hb hHeld.2.2.2.1, cell_keep' hb hHeld.2.2.2.2.1, cell_keep' hb hHeld.2.2.2.2.2.1, cell_keep' hb hHeld.2.2.2.2.2.2.1, cell_keep' hb hHeld.2.2.2.2.2.2.2.1, Lib.hid (below_next hHeld.2.2.2.2.2.2.2.2.out hb)⟩
    clear hK K
    try simp only [Act.put, List.setIfInBounds_toArray, List.set_cons_zero, List.set_cons_succ]
    clear hb
    refine wpAnyH_take (i := 19) (oi := ⟨some 4, _, _, _, _, _⟩) (v := ?_) rfl (by kernel_rfl) (by kernel_rfl) (by kernel_rfl) (fun _ _ _ h => h) (Or.inl ⟨by rfl, ?_⟩) (by assumption) ?_
    rotate_left
    · (intro w hSw; (try dsimp only at hSw); go_simp; (try with_reducible rfl))
    try simp only [Act.put, List.setIfInBounds_toArray, List.set_cons_zero, List.set_cons_succ]
    refine wpAnyH_done (by kernel_rfl) ?_ _
    have HZ := Lib.hid hHeld.2.2.2.2.2.2.2.2.out
    clear hHeld
    go_wp2_with fail
    go_ret
    exact ⟨rfl, HZ.out⟩
  · obtain ⟨x, rfl⟩ : ∃ x, xs = [x] := by
      match xs, HN.out with
      | [x], _ => exact ⟨x, rfl⟩
    change (Sy.line deep (([112, 114, 105, 110, 116, 32] ++ Sy.text x) ++ [59])).length ≤ _ at hl
    show Calls _ _ _ _ (fun r w' => r = .returned (.string ⟨(Sy.line deep (([112, 114, 105, 110, 116, 32] ++ Sy.text x) ++ [59])).toArray⟩) ∧ _)
    simp only [List.length_append, List.length_cons, List.length_nil, Sy.line_len] at hl
    obtain ⟨b', o', pa, AN, ca, rfl, hAN, hc, hsl⟩ := argAt HS.out (j := 0) (x := x) rfl
    obtain ⟨y0, y1, y2, y3, y4, y5⟩ := hc.keep HB1.out
    simp only [Nat.zero_mul, Nat.add_zero] at y0 y1 y2 y3 y4 y5
    have KA := Lib.hid (KT0.out x pa AN ca (by simp) hAN hsl (by omega))
    unfold exprV at KA
    have KL := Lib.hid (KL0.out (⟨#[112, 114, 105, 110, 116, 32]⟩ ++ ⟨((Sy.text x)).toArray⟩ ++ ⟨#[59]⟩) ([112, 114, 105, 110, 116, 32] ++ (Sy.text x) ++ [59]) (by simp only [ByteArray.size_append]; simp only [mk_size]; first | (simp; omega) | omega) (by rw [app_list, app_list]))
    have HT : Hid ((⟨(Sy.line deep (([112, 114, 105, 110, 116, 32] ++ Sy.text x) ++ [59])).toArray⟩ : ByteArray) = ⟨(Sy.line deep ([112, 114, 105, 110, 116, 32] ++ (Sy.text x) ++ [59])).toArray⟩) := by show _ = _; first | rfl | (rw [List.append_assoc]; rfl)
    rw [← HT.out] at KL
    clear HT
    obtain ⟨A, hA⟩ : ∃ A : ByteArray, ⟨(Sy.text x).toArray⟩ = A := ⟨_, rfl⟩
    have hAl : A.size ≤ 1000000000 := by rw [← hA]; show (Sy.text x).length ≤ _; omega
    rw [hA] at KA KL
    obtain ⟨R, hR⟩ : ∃ A : ByteArray, ⟨(Sy.line deep (([112, 114, 105, 110, 116, 32] ++ Sy.text x) ++ [59])).toArray⟩ = A := ⟨_, rfl⟩
    rw [hR] at KL ⊢
    have k1 : ¬ 9223372036854775807 < 6 + A.size := by omega
    have k2 : ¬ 9223372036854775807 < 6 + A.size + 1 := by omega
    have z0 := cell_of_blkP HC1.out (j := 0) (u := .int .i64 6) rfl
    have z1 := cell_of_blkP HC1.out (j := 1) (u := .string nm) rfl
    have z2 := cell_of_blkP HC1.out (j := 2) (u := .slice (some ⟨b', o', none⟩) 1 cx) rfl
    have hl1 := cell_lt' z0
    have hl2 := cell_lt' y0
    clear hl hR hAN hc hsl hnml hA hAl
    go_enter Tryz.func97, Tryz.ntmps97
    go_upto_region 18 with fail
    rw [← HW1.out]
    clear HW1
    go_wp2_with fail
    refine (KA.out _ HB1.out).mono ?_
    rintro e' w2 ⟨rfl, hb2⟩
    have HB2 := Lib.hid (below_next HB1.out hb2)
    clear hb2 z0 z1 z2 y0 y1 y2 y3 y4 y5 hl1 hl2
    go_wp2_with fail
    refine (KL.out _).mono ?_
    rintro e' w3 ⟨rfl, hb3⟩
    have HZ := Lib.hid (below_next HB2.out hb3)
    clear hb3
    go_wp2_with fail
    go_ret
    exact ⟨rfl, HZ.out⟩
  · obtain ⟨x, y, rfl⟩ : ∃ x y, xs = [x, y] := by
      match xs, HN.out with
      | [x, y], _ => exact ⟨x, y, rfl⟩
    change (Sy.line deep (([109, 111, 118, 101, 32] ++ Sy.text x ++ [32, 116, 111, 32] ++ Sy.text y) ++ [59])).length ≤ _ at hl
    show Calls _ _ _ _ (fun r w' => r = .returned (.string ⟨(Sy.line deep (([109, 111, 118, 101, 32] ++ Sy.text x ++ [32, 116, 111, 32] ++ Sy.text y) ++ [59])).toArray⟩) ∧ _)
    simp only [List.length_append, List.length_cons, List.length_nil, Sy.line_len] at hl
    obtain ⟨b', o', pa, AN, ca, rfl, hAN, hc, hsl⟩ := argAt HS.out (j := 0) (x := x) rfl
    obtain ⟨y0, y1, y2, y3, y4, y5⟩ := hc.keep HB1.out
    simp only [Nat.zero_mul, Nat.add_zero] at y0 y1 y2 y3 y4 y5
    obtain ⟨b2, o2, pb, BN, cb, e2, hBN, hc2, hsl2⟩ := argAt HS.out (j := 1) (x := y) rfl
    cases e2
    obtain ⟨u0, u1, u2, u3, u4, u5⟩ := hc2.keep HB1.out
    simp only [Nat.one_mul] at u0 u1 u2 u3 u4 u5
    have KA := Lib.hid (KT0.out x pa AN ca (by simp) hAN hsl (by omega))
    unfold exprV at KA
    have KC := Lib.hid (KT0.out y pb BN cb (by simp) hBN hsl2 (by omega))
    unfold exprV at KC
    have KL := Lib.hid (KL0.out (⟨#[109, 111, 118, 101, 32]⟩ ++ ⟨((Sy.text x)).toArray⟩ ++ ⟨#[32, 116, 111, 32]⟩ ++ ⟨((Sy.text y)).toArray⟩ ++ ⟨#[59]⟩) ([109, 111, 118, 101, 32] ++ (Sy.text x) ++ [32, 116, 111, 32] ++ (Sy.text y) ++ [59]) (by simp only [ByteArray.size_append]; simp only [mk_size]; first | (simp; omega) | omega) (by rw [app_list, app_list, app_list, app_list]))
    have HT : Hid ((⟨(Sy.line deep (([109, 111, 118, 101, 32] ++ Sy.text x ++ [32, 116, 111, 32] ++ Sy.text y) ++ [59])).toArray⟩ : ByteArray) = ⟨(Sy.line deep ([109, 111, 118, 101, 32] ++ (Sy.text x) ++ [32, 116, 111, 32] ++ (Sy.text y) ++ [59])).toArray⟩) := by show _ = _; first | rfl | (rw [List.append_assoc]; rfl)
    rw [← HT.out] at KL
    clear HT
    obtain ⟨A, hA⟩ : ∃ A : ByteArray, ⟨(Sy.text x).toArray⟩ = A := ⟨_, rfl⟩
    have hAl : A.size ≤ 1000000000 := by rw [← hA]; show (Sy.text x).length ≤ _; omega
    rw [hA] at KA KL
    obtain ⟨C, hC⟩ : ∃ A : ByteArray, ⟨(Sy.text y).toArray⟩ = A := ⟨_, rfl⟩
    have hCl : C.size ≤ 1000000000 := by rw [← hC]; show (Sy.text y).length ≤ _; omega
    rw [hC] at KC KL
    obtain ⟨R, hR⟩ : ∃ A : ByteArray, ⟨(Sy.line deep (([109, 111, 118, 101, 32] ++ Sy.text x ++ [32, 116, 111, 32] ++ Sy.text y) ++ [59])).toArray⟩ = A := ⟨_, rfl⟩
    rw [hR] at KL ⊢
    have k1 : ¬ 9223372036854775807 < 5 + A.size := by omega
    have k2 : ¬ 9223372036854775807 < 5 + A.size + 4 := by omega
    have k3 : ¬ 9223372036854775807 < 5 + A.size + 4 + C.size := by omega
    have k4 : ¬ 9223372036854775807 < 5 + A.size + 4 + C.size + 1 := by omega
    have z0 := cell_of_blkP HC1.out (j := 0) (u := .int .i64 7) rfl
    have z1 := cell_of_blkP HC1.out (j := 1) (u := .string nm) rfl
    have z2 := cell_of_blkP HC1.out (j := 2) (u := .slice (some ⟨b', o', none⟩) 2 cx) rfl
    have hl1 := cell_lt' z0
    have hl2 := cell_lt' y0
    clear hl hR hAN hc hsl hnml hBN hc2 hsl2 hA hAl hC hCl
    go_enter Tryz.func97, Tryz.ntmps97
    go_upto_region 20 with fail
    rw [← HW1.out]
    clear HW1
    refine wp_region_held_drew (S := fun W => W.cell? ⟨w.heap.size, 2, none⟩ = some (.slice (some ⟨b', o', none⟩) 2 cx) ∧ W.cell? ⟨b', o', none⟩ = some (.int .i64 x.kind) ∧ W.cell? ⟨b', o' + 1, none⟩ = some (.int .i64 x.op) ∧ W.cell? ⟨b', o' + 2, none⟩ = some (.int .i64 x.int) ∧ W.cell? ⟨b', o' + 3, none⟩ = some (.string x.name) ∧ W.cell? ⟨b', o' + 4, none⟩ = some (.bool x.at_) ∧ W.cell? ⟨b', o' + 5, none⟩ = some (.slice pa AN ca) ∧ W.cell? ⟨b', o' + 6, none⟩ = some (.int .i64 y.kind) ∧ W.cell? ⟨b', o' + 6 + 1, none⟩ = some (.int .i64 y.op) ∧ W.cell? ⟨b', o' + 6 + 2, none⟩ = some (.int .i64 y.int) ∧ W.cell? ⟨b', o' + 6 + 3, none⟩ = some (.string y.name) ∧ W.cell? ⟨b', o' + 6 + 4, none⟩ = some (.bool y.at_) ∧ W.cell? ⟨b', o' + 6 + 5, none⟩ = some (.slice pb BN cb) ∧ Hid (Below w.heap.size w W)) (by kernel_rfl) ?_ (fun hHeld => ?_)
    · exact ⟨z2, y0, y1, y2, y3, y4, y5, u0, u1, u2, u3, u4, u5, Lib.hid (HB1.out).drew⟩
    clear z2 y0 y1 y2 y3 y4 y5 u0 u1 u2 u3 u4 u5
    refine wpAnyH_take (i := 0) (oi := ⟨some 147, _, _, _, _, _⟩) (v := ?_) rfl (by kernel_rfl) (by kernel_rfl) (by kernel_rfl) (fun _ _ _ h => h) (Or.inl ⟨by rfl, ?_⟩) (by assumption) ?_
    rotate_left
    · (intro w hSw; (try dsimp only at hSw); go_simp; (try with_reducible rfl))
    try simp only [Act.put, List.setIfInBounds_toArray, List.set_cons_zero, List.set_cons_succ]
    refine wpAnyH_take (i := 1) (oi := ⟨some 148, _, _, _, _, _⟩) (v := ?_) rfl (by kernel_rfl) (by kernel_rfl) (by kernel_rfl) (fun _ _ _ h => h) (Or.inl ⟨by rfl, ?_⟩) (by assumption) ?_
    rotate_left
    · (intro w hSw; (try dsimp only at hSw); go_simp; (try with_reducible rfl))
    try simp only [Act.put, List.setIfInBounds_toArray, List.set_cons_zero, List.set_cons_succ]
    refine wpAnyH_take (i := 2) (oi := ⟨some 149, _, _, _, _, _⟩) (v := ?_) rfl (by kernel_rfl) (by kernel_rfl) (by kernel_rfl) (fun _ _ _ h => h) (Or.inl ⟨by rfl, ?_⟩) (by assumption) ?_
    rotate_left
    · (intro w hSw; (try dsimp only at hSw); go_simp; (try with_reducible rfl))
    try simp only [Act.put, List.setIfInBounds_toArray, List.set_cons_zero, List.set_cons_succ]
    refine wpAnyH_take (i := 3) (oi := ⟨some 150, _, _, _, _, _⟩) (v := ?_) rfl (by kernel_rfl) (by kernel_rfl) (by kernel_rfl) (fun _ _ _ h => h) (Or.inl ⟨by rfl, ?_⟩) (by assumption) ?_
    rotate_left
    · (intro w hSw; (try dsimp only at hSw); go_simp; (try with_reducible rfl))
    try simp only [Act.put, List.setIfInBounds_toArray, List.set_cons_zero, List.set_cons_succ]
    refine wpAnyH_take (i := 4) (oi := ⟨some 151, _, _, _, _, _⟩) (v := ?_) rfl (by kernel_rfl) (by kernel_rfl) (by kernel_rfl) (fun _ _ _ h => h) (Or.inl ⟨by rfl, ?_⟩) (by assumption) ?_
    rotate_left
    · (intro w hSw; (try dsimp only at hSw); go_simp; (try with_reducible rfl))
    try simp only [Act.put, List.setIfInBounds_toArray, List.set_cons_zero, List.set_cons_succ]
    refine wpAnyH_take (i := 8) (oi := ⟨some 155, _, _, _, _, _⟩) (v := ?_) rfl (by kernel_rfl) (by kernel_rfl) (by kernel_rfl) (fun _ _ _ h => h) (Or.inl ⟨by rfl, ?_⟩) (by assumption) ?_
    rotate_left
    · (intro w hSw; (try dsimp only at hSw); go_simp; (try with_reducible rfl))
    try simp only [Act.put, List.setIfInBounds_toArray, List.set_cons_zero, List.set_cons_succ]
    refine wpAnyH_take (i := 9) (oi := ⟨some 156, _, _, _, _, _⟩) (v := ?_) rfl (by kernel_rfl) (by kernel_rfl) (by kernel_rfl) (fun _ _ _ h => h) (Or.inl ⟨by rfl, ?_⟩) (by assumption) ?_
    rotate_left
    · (intro w hSw; (try dsimp only at hSw); go_simp; (try with_reducible rfl))
    try simp only [Act.put, List.setIfInBounds_toArray, List.set_cons_zero, List.set_cons_succ]
    refine wpAnyH_take (i := 10) (oi := ⟨some 157, _, _, _, _, _⟩) (v := ?_) rfl (by kernel_rfl) (by kernel_rfl) (by kernel_rfl) (fun _ _ _ h => h) (Or.inl ⟨by rfl, ?_⟩) (by assumption) ?_
    rotate_left
    · (intro w hSw; (try dsimp only at hSw); go_simp; (try with_reducible rfl))
    try simp only [Act.put, List.setIfInBounds_toArray, List.set_cons_zero, List.set_cons_succ]
    refine wpAnyH_take (i := 11) (oi := ⟨some 158, _, _, _, _, _⟩) (v := ?_) rfl (by kernel_rfl) (by kernel_rfl) (by kernel_rfl) (fun _ _ _ h => h) (Or.inl ⟨by rfl, ?_⟩) (by assumption) ?_
    rotate_left
    · (intro w hSw; (try dsimp only at hSw); go_simp; (try with_reducible rfl))
    try simp only [Act.put, List.setIfInBounds_toArray, List.set_cons_zero, List.set_cons_succ]
    refine wpAnyH_ready (rs := [5]) (by kernel_rfl) (by simp) ?_
    refine AllReadyH.cons (o := ⟨some 152, _, _, _, _, _⟩) rfl (fun K hK => ?_) AllReadyH.nil
    go_simp
    with_reducible refine (KA.out _ hHeld.2.2.2.2.2.2.2.2.2.2.2.2.2.out).mono ?_
    rintro e w' ⟨rfl, hb⟩
    go_wp2_with fail
    refine hK.out _ _ ?_ (fun hHeld => ?_)
    · exact ⟨cell_keep' hb hHeld.1, cell_keep' hb hHeld.2.1, cell_keep' hb hHeld.2.2.1, cell_keep' hb hHeld.2.2.2.1, cell_keep' hb hHeld.2.2.2.2.1, cell_keep' hb hHeld.2.2.2.2.2.1, cell_keep' hb hHeld.2.2.2.2.2.2.1, cell_keep' hb hHeld.2.2.2.2.2.2.2.1, cell_keep' hb hHeld.2.2.2.2.2.2.2.2.1, cell_keep' hb hHeld.2.2.2.2.2.2.2.2.2.1, cell_keep' hb hHeld.2.2.2.2.2.2.2.2.2.2.1, cell_keep' hb hHeld.2.2.2.2.2.2.2.2.2.2.2.1, cell_keep' hb hHeld.2.2.2.2.2.2.2.2.2.2.2.2.1, Lib.hid (below_next hHeld.2.2.2.2.2.2.2.2.2.2.2.2.2.out hb)⟩
    clear hK K
    try simp only [Act.put, List.setIfInBounds_toArray, List.set_cons_zero, List.set_cons_succ]
    clear hb
    refine wpAnyH_take (i := 6) (oi := ⟨some 153, _, _, _, _, _⟩) (v := ?_) rfl (by kernel_rfl) (by kernel_rfl) (by kernel_rfl) (fun _ _ _ h => h) (Or.inl ⟨by rfl, ?_⟩) (by assumption) ?_
    rotate_left
    · (intro w hSw; (try dsimp only at hSw); go_simp; (try with_reducible rfl))
    try simp only [Act.put, List.setIfInBounds_toArray, List.set_cons_zero, List.set_cons_succ]
    refine wpAnyH_take (i := 7) (oi := ⟨some 154, _, _, _, _, _⟩) (v := ?_) rfl (by kernel_rfl) (by kernel_rfl) (by kernel_rfl) (fun _ _ _ h => h) (Or.inl ⟨by rfl, ?_⟩) (by assumption) ?_
    rotate_left
    · (intro w hSw; (try dsimp only at hSw); go_simp; (try with_reducible rfl))
    try simp only [Act.put, List.setIfInBounds_toArray, List.set_cons_zero, List.set_cons_succ]
    refine wpAnyH_ready (rs := [12]) (by kernel_rfl) (by simp) ?_
    refine AllReadyH.cons (o := ⟨some 159, _, _, _, _, _⟩) rfl (fun K hK => ?_) AllReadyH.nil
    go_simp
    with_reducible refine (KC.out _ hHeld.2.2.2.2.2.2.2.2.2.2.2.2.2.out).mono ?_
    rintro e w' ⟨rfl, hb⟩
    go_wp2_with fail
    refine hK.out _ _ ?_ (fun hHeld => ?_)
    · exact ⟨cell_keep' hb hHeld.1, cell_keep' hb hHeld.2.1, cell_keep' hb hHeld.2.2.1, cell_keep' hb hHeld.2.2.2.1, cell_keep' hb hHeld.2.2.2.2.1, cell_keep' hb hHeld.2.2.2.2.2.1, cell_keep' hb hHeld.2.2.2.2.2.2.1, cell_keep' hb hHeld.2.2.2.2.2.2.2.1, cell_keep' hb hHeld.2.2.2.2.2.2.2.2.1, cell_keep' hb hHeld.2.2.2.2.2.2.2.2.2.1, cell_keep' hb hHeld.2.2.2.2.2.2.2.2.2.2.1, cell_keep' hb hHeld.2.2.2.2.2.2.2.2.2.2.2.1, cell_keep' hb hHeld.2.2.2.2.2.2.2.2.2.2.2.2.1, Lib.hid (below_next hHeld.2.2.2.2.2.2.2.2.2.2.2.2.2.out hb)⟩
    clear hK K
    try simp only [Act.put, List.setIfInBounds_toArray, List.set_cons_zero, List.set_cons_succ]
    clear hb
    refine wpAnyH_take (i := 13) (oi := ⟨some 160, _, _, _, _, _⟩) (v := ?_) rfl (by kernel_rfl) (by kernel_rfl) (by kernel_rfl) (fun _ _ _ h => h) (Or.inl ⟨by rfl, ?_⟩) (by assumption) ?_
    rotate_left
    · (intro w hSw; (try dsimp only at hSw); go_simp; (try with_reducible rfl))
    try simp only [Act.put, List.setIfInBounds_toArray, List.set_cons_zero, List.set_cons_succ]
    refine wpAnyH_take (i := 14) (oi := ⟨some 161, _, _, _, _, _⟩) (v := ?_) rfl (by kernel_rfl) (by kernel_rfl) (by kernel_rfl) (fun _ _ _ h => h) (Or.inl ⟨by rfl, ?_⟩) (by assumption) ?_
    rotate_left
    · (intro w hSw; (try dsimp only at hSw); go_simp; (try with_reducible rfl))
    try simp only [Act.put, List.setIfInBounds_toArray, List.set_cons_zero, List.set_cons_succ]
    refine wpAnyH_ready (rs := [15]) (by kernel_rfl) (by simp) ?_
    refine AllReadyH.cons (o := ⟨some 162, _, _, _, _, _⟩) rfl (fun K hK => ?_) AllReadyH.nil
    go_simp
    with_reducible refine (KL.out _).mono ?_
    rintro e w' ⟨rfl, hb⟩
    go_wp2_with fail
    refine hK.out _ _ ?_ (fun hHeld => ?_)
    · exact ⟨cell_keep' hb hHeld.1, cell_keep' hb hHeld.2.1, cell_keep' hb hHeld.2.2.1, cell_keep' hb hHeld.2.2.2.1, cell_keep' hb hHeld.2.2.2.2.1, cell_keep' hb hHeld.2.2.2.2.2.1, cell_keep' hb hHeld.2.2.2.2.2.2.1, cell_keep' hb hHeld.2.2.2.2.2.2.2.1, cell_keep' hb hHeld.2.2.2.2.2.2.2.2.1, cell_keep' hb hHeld.2.2.2.2.2.2.2.2.2.1, cell_keep' hb hHeld.2.2.2.2.2.2.2.2.2.2.1, cell_keep' hb hHeld.2.2.2.2.2.2.2.2.2.2.2.1, cell_keep' hb hHeld.2.2.2.2.2.2.2.2.2.2.2.2.1, Lib.hid (below_next hHeld.2.2.2.2.2.2.2.2.2.2.2.2.2.out hb)⟩
    clear hK K
    try simp only [Act.put, List.setIfInBounds_toArray, List.set_cons_zero, List.set_cons_succ]
    clear hb
    refine wpAnyH_take (i := 16) (oi := ⟨some 4, _, _, _, _, _⟩) (v := ?_) rfl (by kernel_rfl) (by kernel_rfl) (by kernel_rfl) (fun _ _ _ h => h) (Or.inl ⟨by rfl, ?_⟩) (by assumption) ?_
    rotate_left
    · (intro w hSw; (try dsimp only at hSw); go_simp; (try with_reducible rfl))
    try simp only [Act.put, List.setIfInBounds_toArray, List.set_cons_zero, List.set_cons_succ]
    refine wpAnyH_done (by kernel_rfl) ?_ _
    have HZ := Lib.hid hHeld.2.2.2.2.2.2.2.2.2.2.2.2.2.out
    clear hHeld
    go_wp2_with fail
    go_ret
    exact ⟨rfl, HZ.out⟩
  · obtain ⟨x, y, rfl⟩ : ∃ x y, xs = [x, y] := by
      match xs, HN.out with
      | [x, y], _ => exact ⟨x, y, rfl⟩
    change (Sy.line deep (([119, 97, 116, 99, 104, 32] ++ Sy.text x ++ [32, 98, 121, 32] ++ nm.data.toList ++ [40] ++ Sy.text y ++ [41]) ++ [59])).length ≤ _ at hl
    show Calls _ _ _ _ (fun r w' => r = .returned (.string ⟨(Sy.line deep (([119, 97, 116, 99, 104, 32] ++ Sy.text x ++ [32, 98, 121, 32] ++ nm.data.toList ++ [40] ++ Sy.text y ++ [41]) ++ [59])).toArray⟩) ∧ _)
    simp only [List.length_append, List.length_cons, List.length_nil, Sy.line_len] at hl
    obtain ⟨b', o', pa, AN, ca, rfl, hAN, hc, hsl⟩ := argAt HS.out (j := 0) (x := x) rfl
    obtain ⟨y0, y1, y2, y3, y4, y5⟩ := hc.keep HB1.out
    simp only [Nat.zero_mul, Nat.add_zero] at y0 y1 y2 y3 y4 y5
    obtain ⟨b2, o2, pb, BN, cb, e2, hBN, hc2, hsl2⟩ := argAt HS.out (j := 1) (x := y) rfl
    cases e2
    obtain ⟨u0, u1, u2, u3, u4, u5⟩ := hc2.keep HB1.out
    simp only [Nat.one_mul] at u0 u1 u2 u3 u4 u5
    have KA := Lib.hid (KT0.out x pa AN ca (by simp) hAN hsl (by omega))
    unfold exprV at KA
    have KC := Lib.hid (KT0.out y pb BN cb (by simp) hBN hsl2 (by omega))
    unfold exprV at KC
    have KL := Lib.hid (KL0.out (⟨#[119, 97, 116, 99, 104, 32]⟩ ++ ⟨((Sy.text x)).toArray⟩ ++ ⟨#[32, 98, 121, 32]⟩ ++ nm ++ ⟨#[40]⟩ ++ ⟨((Sy.text y)).toArray⟩ ++ ⟨#[41, 59]⟩) ([119, 97, 116, 99, 104, 32] ++ (Sy.text x) ++ [32, 98, 121, 32] ++ nm.data.toList ++ [40] ++ (Sy.text y) ++ [41, 59]) (by simp only [ByteArray.size_append]; simp only [mk_size]; first | (simp; omega) | omega) (by rw [app_list, app_list, app_list, app_list, app_list, app_list]))
    have HT : Hid ((⟨(Sy.line deep (([119, 97, 116, 99, 104, 32] ++ Sy.text x ++ [32, 98, 121, 32] ++ nm.data.toList ++ [40] ++ Sy.text y ++ [41]) ++ [59])).toArray⟩ : ByteArray) = ⟨(Sy.line deep ([119, 97, 116, 99, 104, 32] ++ (Sy.text x) ++ [32, 98, 121, 32] ++ nm.data.toList ++ [40] ++ (Sy.text y) ++ [41, 59])).toArray⟩) := by show _ = _; first | rfl | (rw [List.append_assoc]; rfl)
    rw [← HT.out] at KL
    clear HT
    obtain ⟨A, hA⟩ : ∃ A : ByteArray, ⟨(Sy.text x).toArray⟩ = A := ⟨_, rfl⟩
    have hAl : A.size ≤ 1000000000 := by rw [← hA]; show (Sy.text x).length ≤ _; omega
    rw [hA] at KA KL
    obtain ⟨C, hC⟩ : ∃ A : ByteArray, ⟨(Sy.text y).toArray⟩ = A := ⟨_, rfl⟩
    have hCl : C.size ≤ 1000000000 := by rw [← hC]; show (Sy.text y).length ≤ _; omega
    rw [hC] at KC KL
    obtain ⟨R, hR⟩ : ∃ A : ByteArray, ⟨(Sy.line deep (([119, 97, 116, 99, 104, 32] ++ Sy.text x ++ [32, 98, 121, 32] ++ nm.data.toList ++ [40] ++ Sy.text y ++ [41]) ++ [59])).toArray⟩ = A := ⟨_, rfl⟩
    rw [hR] at KL ⊢
    have k1 : ¬ 9223372036854775807 < 6 + A.size := by omega
    have k2 : ¬ 9223372036854775807 < 6 + A.size + 4 := by omega
    have k3 : ¬ 9223372036854775807 < 6 + A.size + 4 + nm.size := by omega
    have k4 : ¬ 9223372036854775807 < 6 + A.size + 4 + nm.size + 1 := by omega
    have k5 : ¬ 9223372036854775807 < 6 + A.size + 4 + nm.size + 1 + C.size := by omega
    have k6 : ¬ 9223372036854775807 < 6 + A.size + 4 + nm.size + 1 + C.size + 2 := by omega
    have z0 := cell_of_blkP HC1.out (j := 0) (u := .int .i64 8) rfl
    have z1 := cell_of_blkP HC1.out (j := 1) (u := .string nm) rfl
    have z2 := cell_of_blkP HC1.out (j := 2) (u := .slice (some ⟨b', o', none⟩) 2 cx) rfl
    have hl1 := cell_lt' z0
    have hl2 := cell_lt' y0
    clear hl hR hAN hc hsl hnml hBN hc2 hsl2 hA hAl hC hCl
    go_enter Tryz.func97, Tryz.ntmps97
    go_upto_region 22 with fail
    rw [← HW1.out]
    clear HW1
    refine wp_region_held_drew (S := fun W => W.cell? ⟨w.heap.size, 1, none⟩ = some (.string nm) ∧ W.cell? ⟨w.heap.size, 2, none⟩ = some (.slice (some ⟨b', o', none⟩) 2 cx) ∧ W.cell? ⟨b', o', none⟩ = some (.int .i64 x.kind) ∧ W.cell? ⟨b', o' + 1, none⟩ = some (.int .i64 x.op) ∧ W.cell? ⟨b', o' + 2, none⟩ = some (.int .i64 x.int) ∧ W.cell? ⟨b', o' + 3, none⟩ = some (.string x.name) ∧ W.cell? ⟨b', o' + 4, none⟩ = some (.bool x.at_) ∧ W.cell? ⟨b', o' + 5, none⟩ = some (.slice pa AN ca) ∧ W.cell? ⟨b', o' + 6, none⟩ = some (.int .i64 y.kind) ∧ W.cell? ⟨b', o' + 6 + 1, none⟩ = some (.int .i64 y.op) ∧ W.cell? ⟨b', o' + 6 + 2, none⟩ = some (.int .i64 y.int) ∧ W.cell? ⟨b', o' + 6 + 3, none⟩ = some (.string y.name) ∧ W.cell? ⟨b', o' + 6 + 4, none⟩ = some (.bool y.at_) ∧ W.cell? ⟨b', o' + 6 + 5, none⟩ = some (.slice pb BN cb) ∧ Hid (Below w.heap.size w W)) (by kernel_rfl) ?_ (fun hHeld => ?_)
    · exact ⟨z1, z2, y0, y1, y2, y3, y4, y5, u0, u1, u2, u3, u4, u5, Lib.hid (HB1.out).drew⟩
    clear z1 z2 y0 y1 y2 y3 y4 y5 u0 u1 u2 u3 u4 u5
    refine wpAnyH_take (i := 0) (oi := ⟨some 165, _, _, _, _, _⟩) (v := ?_) rfl (by kernel_rfl) (by kernel_rfl) (by kernel_rfl) (fun _ _ _ h => h) (Or.inl ⟨by rfl, ?_⟩) (by assumption) ?_
    rotate_left
    · (intro w hSw; (try dsimp only at hSw); go_simp; (try with_reducible rfl))
    try simp only [Act.put, List.setIfInBounds_toArray, List.set_cons_zero, List.set_cons_succ]
    refine wpAnyH_take (i := 1) (oi := ⟨some 166, _, _, _, _, _⟩) (v := ?_) rfl (by kernel_rfl) (by kernel_rfl) (by kernel_rfl) (fun _ _ _ h => h) (Or.inl ⟨by rfl, ?_⟩) (by assumption) ?_
    rotate_left
    · (intro w hSw; (try dsimp only at hSw); go_simp; (try with_reducible rfl))
    try simp only [Act.put, List.setIfInBounds_toArray, List.set_cons_zero, List.set_cons_succ]
    refine wpAnyH_take (i := 2) (oi := ⟨some 167, _, _, _, _, _⟩) (v := ?_) rfl (by kernel_rfl) (by kernel_rfl) (by kernel_rfl) (fun _ _ _ h => h) (Or.inl ⟨by rfl, ?_⟩) (by assumption) ?_
    rotate_left
    · (intro w hSw; (try dsimp only at hSw); go_simp; (try with_reducible rfl))
    try simp only [Act.put, List.setIfInBounds_toArray, List.set_cons_zero, List.set_cons_succ]
    refine wpAnyH_take (i := 3) (oi := ⟨some 168, _, _, _, _, _⟩) (v := ?_) rfl (by kernel_rfl) (by kernel_rfl) (by kernel_rfl) (fun _ _ _ h => h) (Or.inl ⟨by rfl, ?_⟩) (by assumption) ?_
    rotate_left
    · (intro w hSw; (try dsimp only at hSw); go_simp; (try with_reducible rfl))
    try simp only [Act.put, List.setIfInBounds_toArray, List.set_cons_zero, List.set_cons_succ]
    refine wpAnyH_take (i := 4) (oi := ⟨some 169, _, _, _, _, _⟩) (v := ?_) rfl (by kernel_rfl) (by kernel_rfl) (by kernel_rfl) (fun _ _ _ h => h) (Or.inl ⟨by rfl, ?_⟩) (by assumption) ?_
    rotate_left
    · (intro w hSw; (try dsimp only at hSw); go_simp; (try with_reducible rfl))
    try simp only [Act.put, List.setIfInBounds_toArray, List.set_cons_zero, List.set_cons_succ]
    refine wpAnyH_take (i := 8) (oi := ⟨some 173, _, _, _, _, _⟩) (v := ?_) rfl (by kernel_rfl) (by kernel_rfl) (by kernel_rfl) (fun _ _ _ h => h) (Or.inl ⟨by rfl, ?_⟩) (by assumption) ?_
    rotate_left
    · (intro w hSw; (try dsimp only at hSw); go_simp; (try with_reducible rfl))
    try simp only [Act.put, List.setIfInBounds_toArray, List.set_cons_zero, List.set_cons_succ]
    refine wpAnyH_take (i := 9) (oi := ⟨some 174, _, _, _, _, _⟩) (v := ?_) rfl (by kernel_rfl) (by kernel_rfl) (by kernel_rfl) (fun _ _ _ h => h) (Or.inl ⟨by rfl, ?_⟩) (by assumption) ?_
    rotate_left
    · (intro w hSw; (try dsimp only at hSw); go_simp; (try with_reducible rfl))
    try simp only [Act.put, List.setIfInBounds_toArray, List.set_cons_zero, List.set_cons_succ]
    refine wpAnyH_take (i := 12) (oi := ⟨some 177, _, _, _, _, _⟩) (v := ?_) rfl (by kernel_rfl) (by kernel_rfl) (by kernel_rfl) (fun _ _ _ h => h) (Or.inl ⟨by rfl, ?_⟩) (by assumption) ?_
    rotate_left
    · (intro w hSw; (try dsimp only at hSw); go_simp; (try with_reducible rfl))
    try simp only [Act.put, List.setIfInBounds_toArray, List.set_cons_zero, List.set_cons_succ]
    refine wpAnyH_take (i := 13) (oi := ⟨some 178, _, _, _, _, _⟩) (v := ?_) rfl (by kernel_rfl) (by kernel_rfl) (by kernel_rfl) (fun _ _ _ h => h) (Or.inl ⟨by rfl, ?_⟩) (by assumption) ?_
    rotate_left
    · (intro w hSw; (try dsimp only at hSw); go_simp; (try with_reducible rfl))
    try simp only [Act.put, List.setIfInBounds_toArray, List.set_cons_zero, List.set_cons_succ]
    refine wpAnyH_take (i := 14) (oi := ⟨some 179, _, _, _, _, _⟩) (v := ?_) rfl (by kernel_rfl) (by kernel_rfl) (by kernel_rfl) (fun _ _ _ h => h) (Or.inl ⟨by rfl, ?_⟩) (by assumption) ?_
    rotate_left
    · (intro w hSw; (try dsimp only at hSw); go_simp; (try with_reducible rfl))
    try simp only [Act.put, List.setIfInBounds_toArray, List.set_cons_zero, List.set_cons_succ]
    refine wpAnyH_take (i := 15) (oi := ⟨some 180, _, _, _, _, _⟩) (v := ?_) rfl (by kernel_rfl) (by kernel_rfl) (by kernel_rfl) (fun _ _ _ h => h) (Or.inl ⟨by rfl, ?_⟩) (by assumption) ?_
    rotate_left
    · (intro w hSw; (try dsimp only at hSw); go_simp; (try with_reducible rfl))
    try simp only [Act.put, List.setIfInBounds_toArray, List.set_cons_zero, List.set_cons_succ]
    refine wpAnyH_ready (rs := [5]) (by kernel_rfl) (by simp) ?_
    refine AllReadyH.cons (o := ⟨some 170, _, _, _, _, _⟩) rfl (fun K hK => ?_) AllReadyH.nil
    go_simp
    with_reducible refine (KA.out _ hHeld.2.2.2.2.2.2.2.2.2.2.2.2.2.2.out).mono ?_
    rintro e w' ⟨rfl, hb⟩
    go_wp2_with fail
    refine hK.out _ _ ?_ (fun hHeld => ?_)
    · exact ⟨cell_keep' hb hHeld.1, cell_keep' hb hHeld.2.1, cell_keep' hb hHeld.2.2.1, cell_keep' hb hHeld.2.2.2.1, cell_keep' hb hHeld.2.2.2.2.1, cell_keep' hb hHeld.2.2.2.2.2.1, cell_keep' hb hHeld.2.2.2.2.2.2.1, cell_keep' hb hHeld.2.2.2.2.2.2.2.1, cell_keep' hb hHeld.2.2.2.2.2.2.2.2.1, cell_keep' hb hHeld.2.2.2.2.2.2.2.2.2.1, cell_keep' hb hHeld.2.2.2.2.2.2.2.2.2.2.1, cell_keep' hb hHeld.2.2.2.2.2.2.2.2.2.2.2.1, cell_keep' hb hHeld.2.2.2.2.2.2.2.2.2.2.2.2.1, cell_keep' hb hHeld.2.2.2.2.2.2.2.2.2.2.2.2.2.1, Lib.hid (below_next hHeld.2.2.2.2.2.2.2.2.2.2.2.2.2.2.out hb)⟩
    clear hK K
    try simp only [Act.put, List.setIfInBounds_toArray, List.set_cons_zero, List.set_cons_succ]
    clear hb
    refine wpAnyH_take (i := 6) (oi := ⟨some 171, _, _, _, _, _⟩) (v := ?_) rfl (by kernel_rfl) (by kernel_rfl) (by kernel_rfl) (fun _ _ _ h => h) (Or.inl ⟨by rfl, ?_⟩) (by assumption) ?_
    rotate_left
    · (intro w hSw; (try dsimp only at hSw); go_simp; (try with_reducible rfl))
    try simp only [Act.put, List.setIfInBounds_toArray, List.set_cons_zero, List.set_cons_succ]
    refine wpAnyH_take (i := 7) (oi := ⟨some 172, _, _, _, _, _⟩) (v := ?_) rfl (by kernel_rfl) (by kernel_rfl) (by kernel_rfl) (fun _ _ _ h => h) (Or.inl ⟨by rfl, ?_⟩) (by assumption) ?_
    rotate_left
    · (intro w hSw; (try dsimp only at hSw); go_simp; (try with_reducible rfl))
    try simp only [Act.put, List.setIfInBounds_toArray, List.set_cons_zero, List.set_cons_succ]
    refine wpAnyH_take (i := 10) (oi := ⟨some 175, _, _, _, _, _⟩) (v := ?_) rfl (by kernel_rfl) (by kernel_rfl) (by kernel_rfl) (fun _ _ _ h => h) (Or.inl ⟨by rfl, ?_⟩) (by assumption) ?_
    rotate_left
    · (intro w hSw; (try dsimp only at hSw); go_simp; (try with_reducible rfl))
    try simp only [Act.put, List.setIfInBounds_toArray, List.set_cons_zero, List.set_cons_succ]
    refine wpAnyH_take (i := 11) (oi := ⟨some 176, _, _, _, _, _⟩) (v := ?_) rfl (by kernel_rfl) (by kernel_rfl) (by kernel_rfl) (fun _ _ _ h => h) (Or.inl ⟨by rfl, ?_⟩) (by assumption) ?_
    rotate_left
    · (intro w hSw; (try dsimp only at hSw); go_simp; (try with_reducible rfl))
    try simp only [Act.put, List.setIfInBounds_toArray, List.set_cons_zero, List.set_cons_succ]
    refine wpAnyH_ready (rs := [16]) (by kernel_rfl) (by simp) ?_
    refine AllReadyH.cons (o := ⟨some 181, _, _, _, _, _⟩) rfl (fun K hK => ?_) AllReadyH.nil
    go_simp
    with_reducible refine (KC.out _ hHeld.2.2.2.2.2.2.2.2.2.2.2.2.2.2.out).mono ?_
    rintro e w' ⟨rfl, hb⟩
    go_wp2_with fail
    refine hK.out _ _ ?_ (fun hHeld => ?_)
    · exact ⟨cell_keep' hb hHeld.1, cell_keep' hb hHeld.2.1, cell_keep' hb hHeld.2.2.1, cell_keep' hb hHeld.2.2.2.1, cell_keep' hb hHeld.2.2.2.2.1, cell_keep' hb hHeld.2.2.2.2.2.1, cell_keep' hb hHeld.2.2.2.2.2.2.1, cell_keep' hb hHeld.2.2.2.2.2.2.2.1, cell_keep' hb hHeld.2.2.2.2.2.2.2.2.1, cell_keep' hb hHeld.2.2.2.2.2.2.2.2.2.1, cell_keep' hb hHeld.2.2.2.2.2.2.2.2.2.2.1, cell_keep' hb hHeld.2.2.2.2.2.2.2.2.2.2.2.1, cell_keep' hb hHeld.2.2.2.2.2.2.2.2.2.2.2.2.1, cell_keep' hb hHeld.2.2.2.2.2.2.2.2.2.2.2.2.2.1, Lib.hid (below_next hHeld.2.2.2.2.2.2.2.2.2.2.2.2.2.2.out hb)⟩
    clear hK K
    try simp only [Act.put, List.setIfInBounds_toArray, List.set_cons_zero, List.set_cons_succ]
    clear hb
    refine wpAnyH_take (i := 17) (oi := ⟨some 182, _, _, _, _, _⟩) (v := ?_) rfl (by kernel_rfl) (by kernel_rfl) (by kernel_rfl) (fun _ _ _ h => h) (Or.inl ⟨by rfl, ?_⟩) (by assumption) ?_
    rotate_left
    · (intro w hSw; (try dsimp only at hSw); go_simp; (try with_reducible rfl))
    try simp only [Act.put, List.setIfInBounds_toArray, List.set_cons_zero, List.set_cons_succ]
    refine wpAnyH_take (i := 18) (oi := ⟨some 183, _, _, _, _, _⟩) (v := ?_) rfl (by kernel_rfl) (by kernel_rfl) (by kernel_rfl) (fun _ _ _ h => h) (Or.inl ⟨by rfl, ?_⟩) (by assumption) ?_
    rotate_left
    · (intro w hSw; (try dsimp only at hSw); go_simp; (try with_reducible rfl))
    try simp only [Act.put, List.setIfInBounds_toArray, List.set_cons_zero, List.set_cons_succ]
    refine wpAnyH_ready (rs := [19]) (by kernel_rfl) (by simp) ?_
    refine AllReadyH.cons (o := ⟨some 184, _, _, _, _, _⟩) rfl (fun K hK => ?_) AllReadyH.nil
    go_simp
    with_reducible refine (KL.out _).mono ?_
    rintro e w' ⟨rfl, hb⟩
    go_wp2_with fail
    refine hK.out _ _ ?_ (fun hHeld => ?_)
    · exact ⟨cell_keep' hb hHeld.1, cell_keep' hb hHeld.2.1, cell_keep' hb hHeld.2.2.1, cell_keep' hb hHeld.2.2.2.1, cell_keep' hb hHeld.2.2.2.2.1, cell_keep' hb hHeld.2.2.2.2.2.1, cell_keep' hb hHeld.2.2.2.2.2.2.1, cell_keep' hb hHeld.2.2.2.2.2.2.2.1, cell_keep' hb hHeld.2.2.2.2.2.2.2.2.1, cell_keep' hb hHeld.2.2.2.2.2.2.2.2.2.1, cell_keep' hb hHeld.2.2.2.2.2.2.2.2.2.2.1, cell_keep' hb hHeld.2.2.2.2.2.2.2.2.2.2.2.1, cell_keep' hb hHeld.2.2.2.2.2.2.2.2.2.2.2.2.1, cell_keep' hb hHeld.2.2.2.2.2.2.2.2.2.2.2.2.2.1, Lib.hid (below_next hHeld.2.2.2.2.2.2.2.2.2.2.2.2.2.2.out hb)⟩
    clear hK K
    try simp only [Act.put, List.setIfInBounds_toArray, List.set_cons_zero, List.set_cons_succ]
    clear hb
    refine wpAnyH_take (i := 20) (oi := ⟨some 4, _, _, _, _, _⟩) (v := ?_) rfl (by kernel_rfl) (by kernel_rfl) (by kernel_rfl) (fun _ _ _ h => h) (Or.inl ⟨by rfl, ?_⟩) (by assumption) ?_
    rotate_left
    · (intro w hSw; (try dsimp only at hSw); go_simp; (try with_reducible rfl))
    try simp only [Act.put, List.setIfInBounds_toArray, List.set_cons_zero, List.set_cons_succ]
    refine wpAnyH_done (by kernel_rfl) ?_ _
    have HZ := Lib.hid hHeld.2.2.2.2.2.2.2.2.2.2.2.2.2.2.out
    clear hHeld
    go_wp2_with fail
    go_ret
    exact ⟨rfl, HZ.out⟩
  · show Calls _ _ _ _ (fun r w' => r = .returned (.string ⟨(Sy.line deep ([114, 101, 116, 117, 114, 110] ++ [59])).toArray⟩) ∧ _)
    have KL := Lib.hid (KL0.out (⟨#[114, 101, 116, 117, 114, 110, 59]⟩) ([114, 101, 116, 117, 114, 110] ++ [59]) (by decide) rfl)
    obtain ⟨R, hR⟩ : ∃ A : ByteArray, ⟨(Sy.line deep ([114, 101, 116, 117, 114, 110] ++ [59])).toArray⟩ = A := ⟨_, rfl⟩
    rw [hR] at KL ⊢
    clear hl hR hnml
    have z0 := cell_of_blkP HC1.out (j := 0) (u := .int .i64 9) rfl
    go_enter Tryz.func97, Tryz.ntmps97
    go_wp2_with fail
    rw [← HW1.out]
    refine (KL.out _).mono ?_
    rintro e' w3 ⟨rfl, hb3⟩
    have HZ := Lib.hid (below_next HB1.out hb3)
    clear hb3 z0
    go_wp2_with fail
    go_ret
    exact ⟨rfl, HZ.out⟩

set_option maxRecDepth 100000 in
set_option maxHeartbeats 8000000 in
theorem refStmts_of {d : Nat} (hS : ∀ (s : Tr.S) (px py pz : Option Addr) (XN cx YN cy ZN cz deep : Nat) (w : World), s.deep ≤ d → Tr.validS s = true → s.exprs.length = XN → s.body.length = YN → s.els.length = ZN →
    SlE w (.slice px XN cx) s.exprs → SlS w (.slice py YN cy) s.body → SlS w (.slice pz ZN cz) s.els → deep + s.deep ≤ 1000000 → (Sy.stmt deep s).length ≤ 1000000000 →
    Calls Tryz.prog 97 #[.int .i64 deep, stmtV s (.slice px XN cx) (.slice py YN cy) (.slice pz ZN cz)] w fun r w' => r = .returned (.string ⟨(Sy.stmt deep s).toArray⟩) ∧ Below w.heap.size w w') : RssC d := by
  intro ls p N c deep w hd hv hN hSl hdd hl
  rw [Tr.validSs_all, List.all_eq_true] at hv
  have hn6 : N ≤ 9223372036854775807 := by
    have := hSl.len
    rw [hN] at this
    unfold maxLen at this
    omega
  have HC := Lib.hid hS
  have HD := Lib.hid hd
  have HV := Lib.hid hv
  have HN := Lib.hid hN
  have HS := Lib.hid hSl
  have HL := Lib.hid hl
  have HDD := Lib.hid hdd
  clear hS hd hv hN hSl hl hdd
  go_enter Tryz.func60, Tryz.ntmps60
  go_wp2_with fail
  go_loopg [5, 6] N (fun g s5 s6 wr => ∃ j : Nat, s6 = .int .i64 j ∧ j ≤ N ∧ g = N - j ∧ s5 = .string ⟨(Sy.stmts deep (ls.take j)).toArray⟩ ∧ Hid (Below w.heap.size w wr))
  case atStart => exact ⟨0, rfl, Nat.zero_le _, rfl, by rw [List.take_zero, Sy.stmts], Below.refl _ _⟩
  case round =>
    obtain ⟨j, rfl, hj, rfl, rfl, HB⟩ := hrel
    by_cases hlt : j < N
    · obtain ⟨s, hs⟩ : ∃ x, ls[j]? = some x := ⟨_, List.getElem?_eq_getElem (by rw [HN.out]; exact hlt)⟩
      obtain ⟨b', o', vx, vy, vz, rfl, _, hc, _, hx, hy, hz⟩ := HS.out.get hs
      obtain ⟨px, cx, rfl, _⟩ := hx.form
      obtain ⟨XN, hXN⟩ : ∃ q, s.exprs.length = q := ⟨_, rfl⟩
      rw [hXN] at hx hc
      obtain ⟨py, cy, rfl, _⟩ := hy.form
      obtain ⟨YN, hYN⟩ : ∃ q, s.body.length = q := ⟨_, rfl⟩
      rw [hYN] at hy hc
      obtain ⟨pz, cz, rfl, _⟩ := hz.form
      obtain ⟨ZN, hZN⟩ : ∃ q, s.els.length = q := ⟨_, rfl⟩
      rw [hZN] at hz hc
      obtain ⟨y0, y1, y2, y3, y4⟩ := hc.keep HB.out
      have hm := List.mem_of_getElem? hs
      have htk := Sy.stmts_take deep hs
      have hle := Sy.stmts_le deep ls (j + 1)
      rw [htk, List.length_append] at hle
      have hLL := HL.out
      have hdg := Tr.S.deeps_get ls j s hs
      have hd1 := HD.out
      have hd2 := HDD.out
      have KT := Lib.hid (HC.out s px py pz XN cx YN cy ZN cz deep wr (by omega) (HV.out s hm) hXN hYN hZN (hx.keep HB.out) (hy.keep HB.out) (hz.keep HB.out) (by omega) (by omega))
      obtain ⟨A, hA⟩ : ∃ A : ByteArray, ⟨(Sy.stmt deep s).toArray⟩ = A := ⟨_, rfl⟩
      obtain ⟨S, hS⟩ : ∃ A : ByteArray, ⟨(Sy.stmts deep (ls.take j)).toArray⟩ = A := ⟨_, rfl⟩
      have hAl : A.size ≤ 1000000000 := by rw [← hA]; show (Sy.stmt deep s).length ≤ _; omega
      have hSl : S.size ≤ 1000000000 := by rw [← hS]; show (Sy.stmts deep (ls.take j)).length ≤ _; omega
      have hnew : (⟨(Sy.stmts deep (ls.take (j + 1))).toArray⟩ : ByteArray) = S ++ A := by rw [htk, ← hA, ← hS, mk_app]
      rw [hA] at KT
      unfold stmtV at KT
      have HNEW := Lib.hid hnew
      have b3 : (j : Int) < (N : Int) := by omega
      have k1 : ¬ 9223372036854775807 < S.size + A.size := by omega
      have hl1 := cell_lt' y0
      rw [hS]
      clear hs hc hx hy hz hXN hYN hZN hm htk hle hLL hA hS hAl hSl hnew hdg hd1 hd2
      go_wp2_with fail
      refine KT.out.mono ?_
      rintro e' w3 ⟨rfl, hb3⟩
      have HB3 := Lib.hid (below_next HB.out hb3)
      clear hb3 y0 y1 y2 y3 y4 hl1
      go_wp2_with fail
      go_roundg (N - (j + 1))
      case measure => omega
      case rel => exact ⟨j + 1, by go_num, by omega, rfl, by rw [HNEW.out], HB3⟩
    · obtain rfl : j = N := by omega
      have hfull : ls.take j = ls := List.take_of_length_le (by rw [HN.out]; exact Nat.le_refl _)
      rw [hfull]
      clear hfull
      go_wp2_with fail
      go_ret
      exact ⟨rfl, HB.out⟩
theorem refStmts_any : ∀ d, RssC d := by
  intro d
  induction d with
  | zero => exact refStmts_of fun s _ _ _ _ _ _ _ _ _ _ _ h => by have := s.deep_pos; omega
  | succ d ih => exact refStmts_of fun s px py pz XN cx YN cy ZN cz deep w hd hv hXN hYN hZN hx hy hz hdd hl => refStmt_of ih s px py pz XN cx YN cy ZN cz deep w hd hv hXN hYN hZN hx hy hz hdd hl
end Go.Proofs.YtlgfickhkejdjaaGreatDoor
