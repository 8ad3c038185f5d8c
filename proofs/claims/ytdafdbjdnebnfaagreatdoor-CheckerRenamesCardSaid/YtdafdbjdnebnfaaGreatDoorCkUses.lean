/-
  The reference's usesExpr, Uses and Has, walked.
-/
import Derived.Test.YtdafdbjdnebnfaaGreatDoorCkRename
import Derived.Test.YtdafdbjdnebnfaaGreatDoorCkRefHas
import Derived.Deep.LoopGhost
namespace Go.Proofs.YtdafdbjdnebnfaaGreatDoor
open Go.RowKit Go.Maps

theorem usesEs_hit {t : ByteArray} : ∀ {l : List Tr.E} {j : Nat} {x : Tr.E}, l[j]? = some x → Ck.usesE t x = true → Ck.usesEs t l = true
  | [], j, x, h, _ => by simp at h
  | y :: r, 0, x, h, hx => by cases h; rw [Ck.usesEs, hx]; rfl
  | y :: r, j + 1, x, h, hx => by rw [Ck.usesEs, usesEs_hit (l := r) (j := j) (by simpa using h) hx, Bool.or_true]
theorem usesEs_no {t : ByteArray} : ∀ {l : List Tr.E} {n : Nat}, l.length = n → (∀ j x, j < n → l[j]? = some x → Ck.usesE t x = false) → Ck.usesEs t l = false
  | [], n, _, _ => by rw [Ck.usesEs]
  | y :: r, n, hn, h => by
    rw [Ck.usesEs, h 0 y (by rw [← hn]; exact Nat.succ_pos _) rfl, usesEs_no (n := r.length) rfl (fun j x hj hx => h (j + 1) x (by rw [← hn, List.length_cons]; omega) (by simpa using hx))]
    rfl
theorem usesSs_hit {t : ByteArray} : ∀ {l : List Tr.S} {j : Nat} {x : Tr.S}, l[j]? = some x → Ck.usesS t x = true → Ck.usesSs t l = true
  | [], j, x, h, _ => by simp at h
  | y :: r, 0, x, h, hx => by cases h; rw [Ck.usesSs, hx]; rfl
  | y :: r, j + 1, x, h, hx => by rw [Ck.usesSs, usesSs_hit (l := r) (j := j) (by simpa using h) hx, Bool.or_true]
theorem usesSs_no {t : ByteArray} : ∀ {l : List Tr.S} {n : Nat}, l.length = n → (∀ j x, j < n → l[j]? = some x → Ck.usesS t x = false) → Ck.usesSs t l = false
  | [], n, _, _ => by rw [Ck.usesSs]
  | y :: r, n, hn, h => by
    rw [Ck.usesSs, h 0 y (by rw [← hn]; exact Nat.succ_pos _) rfl, usesSs_no (n := r.length) rfl (fun j x hj hx => h (j + 1) x (by rw [← hn, List.length_cons]; omega) (by simpa using hx))]
    rfl
theorem usesE_mk (t : ByteArray) (k o i : Int) (nm : ByteArray) (a : Bool) (l : List Tr.E) : Ck.usesE t (.mk k o i nm a l) = (Ck.usesEs t l || (decide (k = 3) && decide (nm = t))) := by rw [Ck.usesE]
theorem usesS_mk (t : ByteArray) (k : Int) (nm : ByteArray) (x : List Tr.E) (b l : List Tr.S) : Ck.usesS t (.mk k nm x b l) = ((decide (k = 0 ∨ k = 1) && decide (nm = t)) || Ck.usesSs t b || Ck.usesSs t l || Ck.usesEs t x) := by rw [Ck.usesS]

set_option maxRecDepth 100000 in
set_option maxHeartbeats 8000000 in
theorem usesE_any (t : ByteArray) : ∀ (d : Nat) (e : Tr.E) (a : Value) (w : World), e.deep ≤ d → SlE w a e.args →
    Calls Tryz.prog 43 #[exprV e a, .string t] w fun r w' => r = .returned (.bool (Ck.usesE t e)) ∧ Below w.heap.size w w' := by
  intro d
  induction d with
  | zero => intro e a w hd; have := e.deep_pos; omega
  | succ d ih =>
    intro e a w hd hS
    obtain ⟨k, o, i, nm, at_, l⟩ := e
    have hS' : SlE w a l := hS
    obtain ⟨p, c5, rfl, hcap⟩ := hS'.form
    have hll := hS'.len
    unfold maxLen at hll
    obtain ⟨N, hN⟩ : ∃ N, l.length = N := ⟨_, rfl⟩
    rw [hN] at hS' hll
    unfold exprV
    simp only [Tr.E.kind, Tr.E.op, Tr.E.int, Tr.E.name, Tr.E.at_]
    rw [hN]
    have hbx := below_box w (.cells #[.int .i64 k, .int .i64 o, .int .i64 i, .string nm, .bool at_, .slice p N c5] 78)
    have B0 := Lib.hid (box_cell w #[.int .i64 k, .int .i64 o, .int .i64 i, .string nm, .bool at_, .slice p N c5] 78 0 _ rfl)
    have B3 := Lib.hid (box_cell w #[.int .i64 k, .int .i64 o, .int .i64 i, .string nm, .bool at_, .slice p N c5] 78 3 _ rfl)
    have B5 := Lib.hid (box_cell w #[.int .i64 k, .int .i64 o, .int .i64 i, .string nm, .bool at_, .slice p N c5] 78 5 _ rfl)
    obtain ⟨w1, hw1⟩ : ∃ w1, w1 = w.alloc (.cells #[.int .i64 k, .int .i64 o, .int .i64 i, .string nm, .bool at_, .slice p N c5] 78) := ⟨_, rfl⟩
    rw [← hw1] at hbx B0 B3 B5
    have HS := Lib.hid (hS'.keep hbx)
    have HB1 := Lib.hid hbx
    have HN := Lib.hid hN
    have HD := Lib.hid hd
    have HIH := Lib.hid ih
    have HW1 := Lib.hid hw1
    clear hS hS' hN hd ih hw1 hbx hcap
    go_enter Tryz.func43, Tryz.ntmps43
    go_wp2_with fail
    rw [← HW1.out]
    clear HW1
    go_loopw [5] (fun s5 wr => ∃ j : Nat, s5 = .int .i64 j ∧ j ≤ N ∧ Hid (∀ q x, q < j → l[q]? = some x → Ck.usesE t x = false) ∧ Hid (Below w1.heap.size w1 wr)) (fun s5 _ => N - (intOf s5).toNat)
    case atStart => exact ⟨0, rfl, Nat.zero_le _, fun q x hq => by omega, Lib.hid (Below.refl _ _)⟩
    case round =>
      obtain ⟨j, rfl, hj, HA, HBR⟩ := hrel
      have b5 := cell_keep' HBR.out B5.out
      by_cases hlt : j < N
      · obtain ⟨x, hx⟩ : ∃ x, l[j]? = some x := ⟨_, List.getElem?_eq_getElem (by rw [HN.out]; exact hlt)⟩
        obtain ⟨b, oo, aa, rfl, hblt, hc, hbd, hsl⟩ := (HS.out.keep HBR.out).get hx
        obtain ⟨x0, x1, x2, x3, x4, x5⟩ := hc
        have hcall := HIH.out x aa wr (Tr.E.deep_args HD.out (e := .mk k o i nm at_ l) hx) hsl
        obtain ⟨pa, ca, rfl, _⟩ := hsl.form
        obtain ⟨AN, hAN⟩ : ∃ N, x.args.length = N := ⟨_, rfl⟩
        rw [hAN] at hcall x5
        unfold exprV at hcall
        have HX := Lib.hid hx
        have b3j : (j : Int) < (N : Int) := by omega
        cases hv : Ck.usesE t x
        · rw [hv] at hcall
          have HCALL := Lib.hid hcall
          have HV := Lib.hid hv
          clear hx hbd hsl hAN hcall hv
          go_wp2_with fail
          refine HCALL.out.mono ?_
          rintro e w2 ⟨rfl, hb2⟩
          go_wp2_with fail
          go_roundw
          case rel =>
            refine ⟨j + 1, by go_num, by omega, Lib.hid (fun q y hq hy => ?_), Lib.hid (below_next HBR.out hb2)⟩
            by_cases e : q = j
            · subst e; rw [HX.out] at hy; cases hy; exact HV.out
            · exact HA.out q y (by omega) hy
          case measure => simp [intOf]; omega
        · rw [hv] at hcall
          have HCALL := Lib.hid hcall
          have hf : Hid (Ck.usesE t (.mk k o i nm at_ l) = true) := by show _ = _; rw [usesE_mk, usesEs_hit hx hv]; rfl
          clear hx hbd hsl hAN hcall hv
          go_wp2_with fail
          refine HCALL.out.mono ?_
          rintro e w2 ⟨rfl, hb2⟩
          go_wp2_with fail
          go_ret
          exact ⟨by rw [hf.out]; rfl, below_next HB1.out (below_next HBR.out hb2)⟩
      · obtain rfl : j = N := by omega
        have b0 := cell_keep' HBR.out B0.out
        have b3 := cell_keep' HBR.out B3.out
        have hno := usesEs_no HN.out HA.out
        by_cases h3 : k = 3
        · subst h3
          have hf : Hid ((nm.toList == t.toList) = Ck.usesE t (.mk 3 o i nm at_ l)) := by show _ = _; rw [usesE_mk, hno, bytes_beq]; rfl
          clear hno
          go_wp2_with fail
          go_ret
          exact ⟨by rw [← hf.out]; rfl, below_next HB1.out HBR.out⟩
        · have h3b : (k == 3) = false := beq_eq_false_iff_ne.2 h3
          have hf : Hid (Ck.usesE t (.mk k o i nm at_ l) = false) := by show _ = _; rw [usesE_mk, hno, decide_eq_false h3]; rfl
          clear hno h3
          go_wp2_with fail
          go_ret
          exact ⟨by rw [hf.out]; rfl, below_next HB1.out HBR.out⟩

theorem hasR_any (s : ByteArray) (v : Value) (l : List ByteArray) (w : World) (h : SlStr w v l) :
    Calls Tryz.prog 25 #[v, .string s] w fun e w' => e = .returned (.bool (Ck.hasS l s)) ∧ w' = w := by
  have H := Lib.hid (has_any s v l w h)
  obtain ⟨p, c, rfl, _⟩ := h
  go_enter Tryz.func25, Tryz.ntmps25
  go_wp2_with fail
  refine H.out.mono ?_
  rintro e w' ⟨rfl, rfl⟩
  go_wp2_with fail
  go_ret
  exact ⟨rfl, rfl⟩
set_option maxRecDepth 100000 in
set_option maxHeartbeats 20000000 in
theorem usesS_any (t : ByteArray) : ∀ (d : Nat) (l : List Tr.S) (v : Value) (w : World), Tr.S.deep.deeps l ≤ d → SlS w v l →
    Calls Tryz.prog 26 #[v, .string t] w fun r w' => r = .returned (.bool (Ck.usesSs t l)) ∧ Below w.heap.size w w' := by
  intro d
  induction d using Nat.strongRecOn with
  | ind d ih =>
    intro l v w hd hS
    obtain ⟨p, c5, rfl, _⟩ := hS.form
    have hll := hS.len
    unfold maxLen at hll
    obtain ⟨N, hN⟩ : ∃ N, l.length = N := ⟨_, rfl⟩
    rw [hN] at hS hll ⊢
    have HS := Lib.hid hS
    have HN := Lib.hid hN
    have HD := Lib.hid hd
    have HIH := Lib.hid ih
    clear hS hN hd ih
    go_enter Tryz.func26, Tryz.ntmps26
    go_wp2
    go_loopg [5] N (fun g s5 wr => ∃ j : Nat, s5 = .int .i64 j ∧ j ≤ N ∧ g = N - j ∧ Hid (∀ q x, q < j → l[q]? = some x → Ck.usesS t x = false) ∧ Hid (Below w.heap.size w wr))
    case atStart => exact ⟨0, rfl, Nat.zero_le _, rfl, fun q x hq => by omega, Lib.hid (Below.refl _ _)⟩
    case round =>
      obtain ⟨j, rfl, hj, rfl, HA, HBR⟩ := hrel
      by_cases hlt : j < N
      · obtain ⟨x, hx⟩ : ∃ x, l[j]? = some x := ⟨_, List.getElem?_eq_getElem (by rw [HN.out]; exact hlt)⟩
        obtain ⟨b, oo, vx, vy, vz, rfl, hblt, hc, hbd, hsx, hsy, hsz⟩ := (HS.out.keep HBR.out).get hx
        obtain ⟨dp1, dp2, dp3⟩ := Tr.S.deep_in HD.out hx
        obtain ⟨k, nm, xs, bd, el⟩ := x
        simp only [Tr.S.exprs, Tr.S.body, Tr.S.els] at hsx hsy hsz dp2 dp3
        obtain ⟨x0, x1, x2, x3, x4⟩ := hc
        simp only [Tr.S.kind, Tr.S.name] at x0 x1
        obtain ⟨px, cx, rfl, _⟩ := hsx.form
        obtain ⟨py, cy, rfl, _⟩ := hsy.form
        obtain ⟨pz, cz, rfl, _⟩ := hsz.form
        have hxl := hsx.len
        unfold maxLen at hxl
        obtain ⟨XN, hXN⟩ : ∃ N, xs.length = N := ⟨_, rfl⟩
        obtain ⟨YN, hYN⟩ : ∃ N, bd.length = N := ⟨_, rfl⟩
        obtain ⟨ZN, hZN⟩ : ∃ N, el.length = N := ⟨_, rfl⟩
        rw [hXN] at hsx x2 hxl
        rw [hYN] at hsy x3
        rw [hZN] at hsz x4
        have hbx := below_box wr (.cells #[.int .i64 k, .string nm, .slice px XN cx, .slice py YN cy, .slice pz ZN cz] 75)
        have B0 := Lib.hid (box_cell wr #[.int .i64 k, .string nm, .slice px XN cx, .slice py YN cy, .slice pz ZN cz] 75 0 _ rfl)
        have B1 := Lib.hid (box_cell wr #[.int .i64 k, .string nm, .slice px XN cx, .slice py YN cy, .slice pz ZN cz] 75 1 _ rfl)
        have B2 := Lib.hid (box_cell wr #[.int .i64 k, .string nm, .slice px XN cx, .slice py YN cy, .slice pz ZN cz] 75 2 _ rfl)
        have B3 := Lib.hid (box_cell wr #[.int .i64 k, .string nm, .slice px XN cx, .slice py YN cy, .slice pz ZN cz] 75 3 _ rfl)
        have B4 := Lib.hid (box_cell wr #[.int .i64 k, .string nm, .slice px XN cx, .slice py YN cy, .slice pz ZN cz] 75 4 _ rfl)
        obtain ⟨w2, hw2⟩ : ∃ w2, w2 = wr.alloc (.cells #[.int .i64 k, .string nm, .slice px XN cx, .slice py YN cy, .slice pz ZN cz] 75) := ⟨_, rfl⟩
        obtain ⟨bx, hbx2⟩ : ∃ q, wr.heap.size = q := ⟨_, rfl⟩
        rw [← hw2] at hbx B0 B1 B2 B3 B4
        have HB2 := Lib.hid (below_next HBR.out hbx)
        have HSX := Lib.hid (hsx.keep hbx)
        have KB : Hid (∀ W, Below w2.heap.size w2 W → Calls Tryz.prog 26 #[.slice py YN cy, .string t] W fun r w' => r = .returned (.bool (Ck.usesSs t bd)) ∧ Below W.heap.size W w') := fun W hb => HIH.out (d - 1) (by omega) bd _ W dp2 ((hsy.keep hbx).keep hb)
        have KE : Hid (∀ W, Below w2.heap.size w2 W → Calls Tryz.prog 26 #[.slice pz ZN cz, .string t] W fun r w' => r = .returned (.bool (Ck.usesSs t el)) ∧ Below W.heap.size W w') := fun W hb => HIH.out (d - 1) (by omega) el _ W dp3 ((hsz.keep hbx).keep hb)
        rw [hbx2] at B0 B1 B2 B3 B4
        have HX := Lib.hid hx
        have HXN := Lib.hid hXN
        have HW2 := Lib.hid hw2
        have HBX := Lib.hid hbx2
        have b3j : (j : Int) < (N : Int) := by omega
        clear hx hbd hsx hsy hsz hXN hYN hZN hw2 hbx2 hbx dp1 dp2 dp3
        go_upto_region 5 with fail
        rw [← HW2.out, HBX.out]
        clear x0 x1 x2 x3 x4 HW2 HBX
        go_cut [43] (fun s43 wx => s43 = .bool ((decide (k = 0 ∨ k = 1) && decide (nm = t)) || Ck.usesSs t bd || Ck.usesSs t el) ∧ Hid (Below w2.heap.size w2 wx))
        case first =>
          have b0 := B0.out
          have b1 := B1.out
          by_cases h0 : k = 0
          · have h0b : (k == 0) = true := beq_iff_eq.2 h0
            cases hnm : decide (nm = t)
            · have hq : (nm.toList == t.toList) = false := by rw [bytes_beq, hnm]
              have HC1 : Hid ((decide (k = 0 ∨ k = 1) && decide (nm = t)) = false) := by show _ = _; rw [hnm, Bool.and_false]
              clear hnm
              have b3 := B3.out
              cases hvb : Ck.usesSs t bd
              · rw [hvb] at KB
                have HVB := Lib.hid hvb
                clear hvb
                go_wp2_with fail
                refine (KB.out _ (Below.refl _ _)).mono ?_
                rintro e w5 ⟨rfl, hb5⟩
                have HB5 := Lib.hid hb5
                have b4 := cell_keep' hb5 B4.out
                clear hb5 b0 b1 b3
                go_wp2_with fail
                refine (KE.out _ HB5.out).mono ?_
                rintro e w6 ⟨rfl, hb6⟩
                go_wp2_with fail
                go_meet
                exact ⟨by rw [HC1.out, HVB.out]; rfl, Lib.hid (below_next HB5.out hb6)⟩
              · rw [hvb] at KB
                have HVB := Lib.hid hvb
                clear hvb
                go_wp2_with fail
                refine (KB.out _ (Below.refl _ _)).mono ?_
                rintro e w5 ⟨rfl, hb5⟩
                have HB5 := Lib.hid hb5
                clear hb5 b0 b1 b3
                go_wp2_with fail
                go_meet
                exact ⟨by rw [HC1.out, HVB.out]; rfl, HB5⟩
            · have hq : (nm.toList == t.toList) = true := by rw [bytes_beq, hnm]
              have HC1 : Hid ((decide (k = 0 ∨ k = 1) && decide (nm = t)) = true) := by show _ = _; rw [hnm, Bool.and_true]; exact decide_eq_true (Or.inl h0)
              clear hnm
              go_wp2_with fail
              go_meet
              exact ⟨by rw [HC1.out]; rfl, Lib.hid (Below.refl _ _)⟩
          · have h0b : (k == 0) = false := beq_eq_false_iff_ne.2 h0
            by_cases h1 : k = 1
            · have h1b : (k == 1) = true := beq_iff_eq.2 h1
              cases hnm : decide (nm = t)
              · have hq : (nm.toList == t.toList) = false := by rw [bytes_beq, hnm]
                have HC1 : Hid ((decide (k = 0 ∨ k = 1) && decide (nm = t)) = false) := by show _ = _; rw [hnm, Bool.and_false]
                clear hnm
                have b3 := B3.out
                cases hvb : Ck.usesSs t bd
                · rw [hvb] at KB
                  have HVB := Lib.hid hvb
                  clear hvb
                  go_wp2_with fail
                  refine (KB.out _ (Below.refl _ _)).mono ?_
                  rintro e w5 ⟨rfl, hb5⟩
                  have HB5 := Lib.hid hb5
                  have b4 := cell_keep' hb5 B4.out
                  clear hb5 b0 b1 b3
                  go_wp2_with fail
                  refine (KE.out _ HB5.out).mono ?_
                  rintro e w6 ⟨rfl, hb6⟩
                  go_wp2_with fail
                  go_meet
                  exact ⟨by rw [HC1.out, HVB.out]; rfl, Lib.hid (below_next HB5.out hb6)⟩
                · rw [hvb] at KB
                  have HVB := Lib.hid hvb
                  clear hvb
                  go_wp2_with fail
                  refine (KB.out _ (Below.refl _ _)).mono ?_
                  rintro e w5 ⟨rfl, hb5⟩
                  have HB5 := Lib.hid hb5
                  clear hb5 b0 b1 b3
                  go_wp2_with fail
                  go_meet
                  exact ⟨by rw [HC1.out, HVB.out]; rfl, HB5⟩
              · have hq : (nm.toList == t.toList) = true := by rw [bytes_beq, hnm]
                have HC1 : Hid ((decide (k = 0 ∨ k = 1) && decide (nm = t)) = true) := by show _ = _; rw [hnm, Bool.and_true]; exact decide_eq_true (Or.inr h1)
                clear hnm
                go_wp2_with fail
                go_meet
                exact ⟨by rw [HC1.out]; rfl, Lib.hid (Below.refl _ _)⟩
            · have h1b : (k == 1) = false := beq_eq_false_iff_ne.2 h1
              have HC1 : Hid ((decide (k = 0 ∨ k = 1) && decide (nm = t)) = false) := by show _ = _; rw [decide_eq_false (fun h => h.elim h0 h1)]; rfl
              have b3 := B3.out
              cases hvb : Ck.usesSs t bd
              · rw [hvb] at KB
                have HVB := Lib.hid hvb
                clear hvb
                go_wp2_with fail
                refine (KB.out _ (Below.refl _ _)).mono ?_
                rintro e w5 ⟨rfl, hb5⟩
                have HB5 := Lib.hid hb5
                have b4 := cell_keep' hb5 B4.out
                clear hb5 b0 b1 b3
                go_wp2_with fail
                refine (KE.out _ HB5.out).mono ?_
                rintro e w6 ⟨rfl, hb6⟩
                go_wp2_with fail
                go_meet
                exact ⟨by rw [HC1.out, HVB.out]; rfl, Lib.hid (below_next HB5.out hb6)⟩
              · rw [hvb] at KB
                have HVB := Lib.hid hvb
                clear hvb
                go_wp2_with fail
                refine (KB.out _ (Below.refl _ _)).mono ?_
                rintro e w5 ⟨rfl, hb5⟩
                have HB5 := Lib.hid hb5
                clear hb5 b0 b1 b3
                go_wp2_with fail
                go_meet
                exact ⟨by rw [HC1.out, HVB.out]; rfl, HB5⟩
        case rest =>
          obtain ⟨rfl, HBY⟩ := hcut
          cases hv : ((decide (k = 0 ∨ k = 1) && decide (nm = t)) || Ck.usesSs t bd || Ck.usesSs t el)
          · have HV := Lib.hid hv
            clear hv KB KE
            go_wp2_with fail
            go_loopg [7] XN (fun g s7 wq => ∃ i : Nat, s7 = .int .i64 i ∧ i ≤ XN ∧ g = XN - i ∧ Hid (∀ q x, q < i → xs[q]? = some x → Ck.usesE t x = false) ∧ Hid (Below w2.heap.size w2 wq))
            case atStart => exact ⟨0, rfl, Nat.zero_le _, rfl, fun q x hq => by omega, HBY⟩
            case round =>
              obtain ⟨i, rfl, hi, rfl, HAX, HQ⟩ := hrel
              have b2 := cell_keep' HQ.out B2.out
              by_cases hil : i < XN
              · obtain ⟨y, hy⟩ : ∃ y, xs[i]? = some y := ⟨_, List.getElem?_eq_getElem (by rw [HXN.out]; exact hil)⟩
                obtain ⟨b2', o2', aa, rfl, _, hcy, hbdy, hsl⟩ := (HSX.out.keep HQ.out).get hy
                obtain ⟨y0, y1, y2, y3, y4, y5⟩ := hcy
                have hcall := usesE_any t _ y aa wr (Nat.le_refl _) hsl
                obtain ⟨pa, ca, rfl, _⟩ := hsl.form
                obtain ⟨AN, hAN⟩ : ∃ N, y.args.length = N := ⟨_, rfl⟩
                rw [hAN] at hcall y5
                unfold exprV at hcall
                have HY := Lib.hid hy
                have b3i : (i : Int) < (XN : Int) := by omega
                cases hu : Ck.usesE t y
                · rw [hu] at hcall
                  have HCALL := Lib.hid hcall
                  have HU := Lib.hid hu
                  clear hy hbdy hsl hAN hcall hu
                  go_wp2_with fail
                  refine HCALL.out.mono ?_
                  rintro e w3 ⟨rfl, hb3⟩
                  go_wp2_with fail
                  go_roundg (XN - (i + 1))
                  case measure => omega
                  case rel =>
                    refine ⟨i + 1, by go_num, by omega, rfl, Lib.hid (fun q x hq hy => ?_), Lib.hid (below_next HQ.out hb3)⟩
                    by_cases e : q = i
                    · subst e; rw [HY.out] at hy; cases hy; exact HU.out
                    · exact HAX.out q x (by omega) hy
                · rw [hu] at hcall
                  have HCALL := Lib.hid hcall
                  have hf : Hid (Ck.usesSs t l = true) := by show _ = _; exact usesSs_hit HX.out (by rw [usesS_mk, HV.out, usesEs_hit hy hu]; rfl)
                  clear hy hbdy hsl hAN hcall hu
                  go_wp2_with fail
                  refine HCALL.out.mono ?_
                  rintro e w3 ⟨rfl, hb3⟩
                  go_wp2_with fail
                  go_ret
                  exact ⟨by rw [hf.out]; rfl, below_next HB2.out (below_next HQ.out hb3)⟩
              · have hno := usesEs_no (n := XN) HXN.out (fun q x hq => HAX.out q x (by omega))
                have hus : Hid (Ck.usesS t (.mk k nm xs bd el) = false) := by show _ = _; rw [usesS_mk, HV.out, hno]; rfl
                clear hno
                go_wp2_with fail
                go_roundg (N - (j + 1))
                case measure => omega
                case rel =>
                  refine ⟨j + 1, by go_num, by omega, rfl, Lib.hid (fun q x hq hy => ?_), Lib.hid (below_next HB2.out HQ.out)⟩
                  by_cases e : q = j
                  · subst e; rw [HX.out] at hy; cases hy; exact hus.out
                  · exact HA.out q x (by omega) hy
          · have hf : Hid (Ck.usesSs t l = true) := by show _ = _; exact usesSs_hit HX.out (by rw [usesS_mk, hv]; rfl)
            clear hv
            go_wp2_with fail
            go_ret
            exact ⟨by rw [hf.out]; rfl, below_next HB2.out HBY.out⟩
      · have hf : Hid (Ck.usesSs t l = false) := usesSs_no (n := N) HN.out (fun q x hq => HA.out q x (by omega))
        go_wp2_with fail
        go_ret
        exact ⟨by rw [hf.out]; rfl, HBR.out⟩
end Go.Proofs.YtdafdbjdnebnfaaGreatDoor
