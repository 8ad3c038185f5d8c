/-
  Several texts in one: SyReqE, SyReqX, SyReqN, SyRefLvl, SyRefLevel.
-/
import Derived.Test.YtlgfickhkejdjaaGreatDoorMSyH
namespace Go.Proofs.YtlgfickhkejdjaaGreatDoor
open Go.RowKit Go.Maps

def ReqEC (d : Nat) : Prop := ∀ (x y : Tr.E) (v1 v2 : Value) (W : World), x.deep ≤ d → SlE W v1 x.args → SlE W v2 y.args →
  Calls Tryz.prog 18 #[exprV x v1, exprV y v2] W fun r w' => r = .returned (.bool (Sy.sameE x y)) ∧ Below W.heap.size W w'

set_option maxRecDepth 100000 in
set_option maxHeartbeats 4000000 in
theorem refSameEs_of {d : Nat} (hC : ReqEC d) (l1 l2 : List Tr.E) (p1 : Option Addr) (N1 c1 : Nat) (p2 : Option Addr) (N2 c2 : Nat) (w : World) (hd : Tr.E.deep.deeps l1 ≤ d) (hN1 : l1.length = N1) (hN2 : l2.length = N2) (h1 : SlE w (.slice p1 N1 c1) l1) (h2 : SlE w (.slice p2 N2 c2) l2) :
    Calls Tryz.prog 46 #[.slice p1 N1 c1, .slice p2 N2 c2] w fun r w' => r = .returned (.bool (Sy.sameEs l1 l2)) ∧ Below w.heap.size w w' := by
  have hn1 : N1 ≤ 9223372036854775807 := by
    have := h1.len
    rw [hN1] at this
    unfold maxLen at this
    exact this
  have hn2 : N2 ≤ 9223372036854775807 := by
    have := h2.len
    rw [hN2] at this
    unfold maxLen at this
    exact this
  have HC := Lib.hid hC
  have HD := Lib.hid hd
  have HN1 := Lib.hid hN1
  have HN2 := Lib.hid hN2
  have H1 := Lib.hid h1
  have H2 := Lib.hid h2
  clear hC hd hN1 hN2 h1 h2
  by_cases hne : N1 = N2
  · subst hne
    go_enter Tryz.func46, Tryz.ntmps46
    go_wp2_with fail
    go_loopg [5] N1 (fun g s17 wr => ∃ j : Nat, s17 = .int .i64 j ∧ j ≤ N1 ∧ g = N1 - j ∧ Hid (l1.take j = l2.take j) ∧ Hid (Below w.heap.size w wr))
    case atStart => exact ⟨0, rfl, Nat.zero_le _, rfl, rfl, Below.refl _ _⟩
    case round =>
      obtain ⟨j, rfl, hj, rfl, HT, HB⟩ := hrel
      by_cases hlt : j < N1
      · obtain ⟨x, hx⟩ : ∃ x, l1[j]? = some x := ⟨_, List.getElem?_eq_getElem (by rw [HN1.out]; exact hlt)⟩
        obtain ⟨y, hy⟩ : ∃ x, l2[j]? = some x := ⟨_, List.getElem?_eq_getElem (by rw [HN2.out]; exact hlt)⟩
        obtain ⟨b1, o1, a1, rfl, _, hc1, _, hsl1⟩ := H1.out.get hx
        obtain ⟨b2, o2, a2, rfl, _, hc2, _, hsl2⟩ := H2.out.get hy
        obtain ⟨q1, k1, rfl, _⟩ := hsl1.form
        obtain ⟨q2, k2, rfl, _⟩ := hsl2.form
        obtain ⟨A1, hA1⟩ : ∃ q, x.args.length = q := ⟨_, rfl⟩
        obtain ⟨A2, hA2⟩ : ∃ q, y.args.length = q := ⟨_, rfl⟩
        rw [hA1] at hsl1 hc1
        rw [hA2] at hsl2 hc2
        clear hA1 hA2
        obtain ⟨x0, x1, x2, x3, x4, x5⟩ := hc1.keep HB.out
        obtain ⟨y0, y1, y2, y3, y4, y5⟩ := hc2.keep HB.out
        have hb5 : Below w.heap.size w wr.drew := HB.out.drew
        have hcall := HC.out x y _ _ wr.drew (Nat.le_trans (Tr.E.deeps_get l1 j x hx) HD.out) (hsl1.keep hb5) (hsl2.keep hb5)
        unfold exprV at hcall
        have HB5 := Lib.hid hb5
        have HX := Lib.hid hx
        have HY := Lib.hid hy
        have b3 : (j : Int) < (N1 : Int) := by omega
        have b5 : (0 : Int) ≤ (j : Int) := by omega
        have hl1 := cell_lt' x0
        have hl2 := cell_lt' y0
        obtain ⟨S, hSx⟩ : ∃ q, Sy.sameE x y = q := ⟨_, rfl⟩
        rw [hSx] at hcall
        have HSX := Lib.hid hSx
        have HCALL := Lib.hid hcall
        clear hx hy hc1 hc2 hsl1 hsl2 hb5 hcall hSx
        cases S
        · go_wp2_with fail
          go_still_tail 8, (by kernel_rfl)
          change wpList _ _ _ _ _ wr.drew
          obtain ⟨w5, hw5⟩ : ∃ q, q = wr.drew := ⟨_, rfl⟩
          rw [← hw5] at HCALL HB5 ⊢
          clear hw5 x0 x1 x2 x3 x4 x5 y0 y1 y2 y3 y4 y5 hl1 hl2
          go_wp2_with fail
          refine HCALL.out.mono ?_
          rintro e' w6 ⟨rfl, hb6⟩
          have HB6 := Lib.hid (HB5.out.trans (hb6.mono HB5.out.size))
          clear hb6
          go_wp2_with fail
          go_ret
          refine ⟨?_, HB6.out⟩
          rw [show Sy.sameEs l1 l2 = false by
            rw [Bool.eq_false_iff]
            intro h
            rw [Sy.sameEs_iff] at h
            have h3 := HX.out
            rw [h, HY.out] at h3
            have h4 := HSX.out
            rw [Option.some.inj h3, (Sy.sameE_iff x x).2 rfl] at h4
            cases h4]
          rfl
        · go_wp2_with fail
          go_still_tail 8, (by kernel_rfl)
          change wpList _ _ _ _ _ wr.drew
          obtain ⟨w5, hw5⟩ : ∃ q, q = wr.drew := ⟨_, rfl⟩
          rw [← hw5] at HCALL HB5 ⊢
          clear hw5 x0 x1 x2 x3 x4 x5 y0 y1 y2 y3 y4 y5 hl1 hl2
          go_wp2_with fail
          refine HCALL.out.mono ?_
          rintro e' w6 ⟨rfl, hb6⟩
          have HB6 := Lib.hid (HB5.out.trans (hb6.mono HB5.out.size))
          clear hb6
          go_wp2_with fail
          go_roundg (N1 - (j + 1))
          case measure => omega
          case rel => exact ⟨j + 1, by go_num, by omega, rfl, take_grow HT.out HX.out (by rw [HY.out, (Sy.sameE_iff x y).1 HSX.out]), HB6⟩
      · obtain rfl : j = N1 := by omega
        go_wp2_with fail
        go_ret
        refine ⟨?_, HB.out⟩
        rw [(Sy.sameEs_iff l1 l2).2 (by have h := HT.out; rw [List.take_of_length_le (by rw [HN1.out]; exact Nat.le_refl _), List.take_of_length_le (by rw [HN2.out]; exact Nat.le_refl _)] at h; exact h)]
        rfl
  · have hf : Sy.sameEs l1 l2 = false := by
      rw [Bool.eq_false_iff]
      intro h
      rw [Sy.sameEs_iff] at h
      exact hne (by rw [← HN1.out, ← HN2.out, h])
    rw [hf]
    clear hf
    have hne2 : ¬ (N1 : Int) = (N2 : Int) := by omega
    go_enter Tryz.func46, Tryz.ntmps46
    go_wp2_with fail
    go_ret
    exact ⟨rfl, Below.refl _ _⟩
end Go.Proofs.YtlgfickhkejdjaaGreatDoor

namespace Go.Proofs.YtlgfickhkejdjaaGreatDoor
open Go.RowKit Go.Maps

set_option maxRecDepth 100000 in
set_option maxHeartbeats 4000000 in
theorem refSameExpr_any : ∀ d : Nat, ReqEC d := by
  intro d
  induction d with
  | zero => intro x y v1 v2 W hd; have := x.deep_pos; omega
  | succ d ih =>
    intro x y v1 v2 w hd h1 h2
    have hde := E_deep_eq x
    obtain ⟨k, o, i, nm, a, l⟩ := x
    obtain ⟨k', o', i', nm', a', l'⟩ := y
    have h1 : SlE w v1 l := h1
    have h2 : SlE w v2 l' := h2
    have hde : (Tr.E.mk k o i nm a l).deep = 1 + Tr.E.deep.deeps l := hde
    obtain ⟨p1, c1, rfl, _⟩ := h1.form
    obtain ⟨p2, c2, rfl, _⟩ := h2.form
    obtain ⟨N1, hN1⟩ : ∃ q, l.length = q := ⟨_, rfl⟩
    obtain ⟨N2, hN2⟩ : ∃ q, l'.length = q := ⟨_, rfl⟩
    rw [hN1] at h1 ⊢
    rw [hN2] at h2 ⊢
    have hb1 := below_box w (.cells #[.int .i64 k, .int .i64 o, .int .i64 i, .string nm, .bool a, .slice p1 N1 c1] 24)
    have hb2 := hb1.alloc hb1.size (.cells #[.int .i64 k', .int .i64 o', .int .i64 i', .string nm', .bool a', .slice p2 N2 c2] 24)
    obtain ⟨w2, hw2⟩ : ∃ q, q = (w.alloc (.cells #[.int .i64 k, .int .i64 o, .int .i64 i, .string nm, .bool a, .slice p1 N1 c1] 24)).alloc (.cells #[.int .i64 k', .int .i64 o', .int .i64 i', .string nm', .bool a', .slice p2 N2 c2] 24) := ⟨_, rfl⟩
    have HB2 : Hid (Below w.heap.size w w2) := by rw [hw2]; exact hb2
    have hcall := refSameEs_of ih l l' p1 N1 c1 p2 N2 c2 w2 (by omega) hN1 hN2 (h1.keep HB2.out) (h2.keep HB2.out)
    have HCALL := Lib.hid hcall
    have HW2 := Lib.hid hw2
    unfold exprV
    simp only [Tr.E.kind, Tr.E.op, Tr.E.int, Tr.E.name, Tr.E.at_]
    clear hde h1 h2 hN1 hN2 hb1 hb2 hw2 hcall hd ih
    by_cases hk : k = k'
    · subst hk
      by_cases ho : o = o'
      · subst ho
        by_cases hi : i = i'
        · subst hi
          by_cases hn : nm = nm'
          · subst hn
            by_cases ha : a = a'
            · subst ha
              go_enter Tryz.func18, Tryz.ntmps18
              go_wp2_with fail
              rw [← HW2.out]
              refine HCALL.out.mono ?_
              rintro e' w3 ⟨rfl, hb3⟩
              have HB3 := Lib.hid (HB2.out.trans (hb3.mono HB2.out.size))
              clear hb3 HW2
              go_wp2_with fail
              go_ret
              exact ⟨by rw [Sy.sameE]; simp, HB3.out⟩
            · have hf : Sy.sameE (.mk k o i nm a l) (.mk k o i nm a' l') = false := by rw [Sy.sameE]; simp [ha]
              rw [hf]
              clear hf
              go_enter Tryz.func18, Tryz.ntmps18
              go_wp2_with fail
              rw [← HW2.out]
              go_ret
              exact ⟨rfl, HB2.out⟩
          · have hf : Sy.sameE (.mk k o i nm a l) (.mk k o i nm' a' l') = false := by rw [Sy.sameE]; simp [hn]
            have hn2 := list_ne hn
            rw [hf]
            clear hf
            go_enter Tryz.func18, Tryz.ntmps18
            go_wp2_with fail
            rw [← HW2.out]
            go_ret
            exact ⟨rfl, HB2.out⟩
        · have hf : Sy.sameE (.mk k o i nm a l) (.mk k o i' nm' a' l') = false := by rw [Sy.sameE]; simp [hi]
          rw [hf]
          clear hf
          go_enter Tryz.func18, Tryz.ntmps18
          go_wp2_with fail
          rw [← HW2.out]
          go_ret
          exact ⟨rfl, HB2.out⟩
      · have hf : Sy.sameE (.mk k o i nm a l) (.mk k o' i' nm' a' l') = false := by rw [Sy.sameE]; simp [ho]
        rw [hf]
        clear hf
        go_enter Tryz.func18, Tryz.ntmps18
        go_wp2_with fail
        rw [← HW2.out]
        go_ret
        exact ⟨rfl, HB2.out⟩
    · have hf : Sy.sameE (.mk k o i nm a l) (.mk k' o' i' nm' a' l') = false := by rw [Sy.sameE]; simp [hk]
      rw [hf]
      clear hf
      go_enter Tryz.func18, Tryz.ntmps18
      go_wp2_with fail
      rw [← HW2.out]
      go_ret
      exact ⟨rfl, HB2.out⟩
end Go.Proofs.YtlgfickhkejdjaaGreatDoor

namespace Go.Proofs.YtlgfickhkejdjaaGreatDoor
open Go.RowKit Go.Maps

set_option maxRecDepth 100000 in
set_option maxHeartbeats 4000000 in
theorem refNames_any (l1 l2 : List ByteArray) (p1 : Option Addr) (N1 c1 : Nat) (p2 : Option Addr) (N2 c2 : Nat) (w : World) (hN1 : l1.length = N1) (hN2 : l2.length = N2) (h1 : SlStr w (.slice p1 N1 c1) l1) (h2 : SlStr w (.slice p2 N2 c2) l2) :
    Calls Tryz.prog 65 #[.slice p1 N1 c1, .slice p2 N2 c2] w fun r w' => r = .returned (.bool (decide (l1 = l2))) ∧ Below w.heap.size w w' := by
  have hn1 : N1 ≤ 9223372036854775807 := by
    have := h1.len
    rw [hN1] at this
    unfold maxLen at this
    exact this
  have hn2 : N2 ≤ 9223372036854775807 := by
    have := h2.len
    rw [hN2] at this
    unfold maxLen at this
    exact this
  have HN1 := Lib.hid hN1
  have HN2 := Lib.hid hN2
  have H1 := Lib.hid h1
  have H2 := Lib.hid h2
  clear hN1 hN2 h1 h2
  by_cases hne : N1 = N2
  · subst hne
    go_enter Tryz.func65, Tryz.ntmps65
    go_wp2_with fail
    go_loopg [5] N1 (fun g s5 wr => ∃ j : Nat, s5 = .int .i64 j ∧ j ≤ N1 ∧ g = N1 - j ∧ Hid (l1.take j = l2.take j) ∧ Hid (Below w.heap.size w wr))
    case atStart => exact ⟨0, rfl, Nat.zero_le _, rfl, rfl, Below.refl _ _⟩
    case round =>
      obtain ⟨j, rfl, hj, rfl, HT, HB⟩ := hrel
      by_cases hlt : j < N1
      · obtain ⟨x, hx⟩ : ∃ x, l1[j]? = some x := ⟨_, List.getElem?_eq_getElem (by rw [HN1.out]; exact hlt)⟩
        obtain ⟨y, hy⟩ : ∃ x, l2[j]? = some x := ⟨_, List.getElem?_eq_getElem (by rw [HN2.out]; exact hlt)⟩
        obtain ⟨b1, o1, rfl, _, hc1⟩ := H1.out.get hx
        obtain ⟨b2, o2, rfl, _, hc2⟩ := H2.out.get hy
        have x0 := cell_keep' HB.out hc1
        have y0 := cell_keep' HB.out hc2
        have HX := Lib.hid hx
        have HY := Lib.hid hy
        have HBD : Hid (∀ q, Below w.heap.size w (wr.drewN q)) := fun q => below_drewN HB.out q
        have b3 : (j : Int) < (N1 : Int) := by omega
        have b5 : (0 : Int) ≤ (j : Int) := by omega
        clear hx hy hc1 hc2
        by_cases hxy : x = y
        · subst hxy
          go_wp2_with fail
          go_quiet (fail)
          go_wp2_with fail
          go_roundg (N1 - (j + 1))
          case measure => omega
          case rel => exact ⟨j + 1, by go_num, by omega, rfl, take_grow HT.out HX.out HY.out, HBD.out _⟩
        · have hl : (x.toList == y.toList) = false := beq_eq_false_iff_ne.2 (list_ne hxy)
          go_wp2_with fail
          go_quiet (fail)
          go_wp2_with fail
          go_ret
          refine ⟨?_, HBD.out _⟩
          rw [show decide (l1 = l2) = false by
            rw [decide_eq_false_iff_not]
            intro h
            have h3 := HX.out
            rw [h, HY.out] at h3
            exact hxy (Option.some.inj h3).symm]
          rfl
      · obtain rfl : j = N1 := by omega
        go_wp2_with fail
        go_ret
        refine ⟨?_, HB.out⟩
        rw [show decide (l1 = l2) = true by
          rw [decide_eq_true_iff]
          have h := HT.out
          rw [List.take_of_length_le (by rw [HN1.out]; exact Nat.le_refl _), List.take_of_length_le (by rw [HN2.out]; exact Nat.le_refl _)] at h
          exact h]
        rfl
  · have hf : decide (l1 = l2) = false := by
      rw [decide_eq_false_iff_not]
      intro h
      exact hne (by rw [← HN1.out, ← HN2.out, h])
    rw [hf]
    clear hf
    have hne2 : ¬ (N1 : Int) = (N2 : Int) := by omega
    go_enter Tryz.func65, Tryz.ntmps65
    go_wp2_with fail
    go_ret
    exact ⟨rfl, Below.refl _ _⟩
end Go.Proofs.YtlgfickhkejdjaaGreatDoor

namespace Go.Proofs.YtlgfickhkejdjaaGreatDoor
open Go.RowKit Go.Maps

set_option maxRecDepth 100000 in
set_option maxHeartbeats 4000000 in
theorem refOpLevel_any (o : Nat) (ho : o ≤ 12) (w : World) :
    Calls Tryz.prog 29 #[.int .i64 o] w fun r w' => r = .returned (.int .i64 (Sy.opLevel o : Nat)) ∧ w' = w := by
  match o, ho with
  | 0, _ =>
    go_enter Tryz.func29, Tryz.ntmps29
    go_wp2_with fail
    go_ret
    exact ⟨rfl, rfl⟩
  | 1, _ =>
    go_enter Tryz.func29, Tryz.ntmps29
    go_wp2_with fail
    go_ret
    exact ⟨rfl, rfl⟩
  | 2, _ =>
    go_enter Tryz.func29, Tryz.ntmps29
    go_wp2_with fail
    go_ret
    exact ⟨rfl, rfl⟩
  | 3, _ =>
    go_enter Tryz.func29, Tryz.ntmps29
    go_wp2_with fail
    go_ret
    exact ⟨rfl, rfl⟩
  | 4, _ =>
    go_enter Tryz.func29, Tryz.ntmps29
    go_wp2_with fail
    go_ret
    exact ⟨rfl, rfl⟩
  | 5, _ =>
    go_enter Tryz.func29, Tryz.ntmps29
    go_wp2_with fail
    go_ret
    exact ⟨rfl, rfl⟩
  | 6, _ =>
    go_enter Tryz.func29, Tryz.ntmps29
    go_wp2_with fail
    go_ret
    exact ⟨rfl, rfl⟩
  | 7, _ =>
    go_enter Tryz.func29, Tryz.ntmps29
    go_wp2_with fail
    go_ret
    exact ⟨rfl, rfl⟩
  | 8, _ =>
    go_enter Tryz.func29, Tryz.ntmps29
    go_wp2_with fail
    go_ret
    exact ⟨rfl, rfl⟩
  | 9, _ =>
    go_enter Tryz.func29, Tryz.ntmps29
    go_wp2_with fail
    go_ret
    exact ⟨rfl, rfl⟩
  | 10, _ =>
    go_enter Tryz.func29, Tryz.ntmps29
    go_wp2_with fail
    go_ret
    exact ⟨rfl, rfl⟩
  | 11, _ =>
    go_enter Tryz.func29, Tryz.ntmps29
    go_wp2_with fail
    go_ret
    exact ⟨rfl, rfl⟩
  | 12, _ =>
    go_enter Tryz.func29, Tryz.ntmps29
    go_wp2_with fail
    go_ret
    exact ⟨rfl, rfl⟩

set_option maxRecDepth 100000 in
set_option maxHeartbeats 4000000 in
theorem refSymbol_any (o : Nat) (ho : o ≤ 12) (w : World) :
    Calls Tryz.prog 31 #[.int .i64 o] w fun r w' => r = .returned (.string ⟨(Sy.sym o).toArray⟩) ∧ Below w.heap.size w w' := by
  have hb := below_box w (.cells #[.string ⟨#[43]⟩, .string ⟨#[45]⟩, .string ⟨#[42]⟩, .string ⟨#[47]⟩, .string ⟨#[37]⟩, .string ⟨#[61, 61]⟩, .string ⟨#[33, 61]⟩, .string ⟨#[60]⟩, .string ⟨#[60, 61]⟩, .string ⟨#[62]⟩, .string ⟨#[62, 61]⟩, .string ⟨#[97, 110, 100]⟩, .string ⟨#[111, 114]⟩] 9)
  match o, ho with
  | 0, _ =>
    go_enter Tryz.func31, Tryz.ntmps31
    go_wp2_with fail
    go_ret
    exact ⟨rfl, hb⟩
  | 1, _ =>
    go_enter Tryz.func31, Tryz.ntmps31
    go_wp2_with fail
    go_ret
    exact ⟨rfl, hb⟩
  | 2, _ =>
    go_enter Tryz.func31, Tryz.ntmps31
    go_wp2_with fail
    go_ret
    exact ⟨rfl, hb⟩
  | 3, _ =>
    go_enter Tryz.func31, Tryz.ntmps31
    go_wp2_with fail
    go_ret
    exact ⟨rfl, hb⟩
  | 4, _ =>
    go_enter Tryz.func31, Tryz.ntmps31
    go_wp2_with fail
    go_ret
    exact ⟨rfl, hb⟩
  | 5, _ =>
    go_enter Tryz.func31, Tryz.ntmps31
    go_wp2_with fail
    go_ret
    exact ⟨rfl, hb⟩
  | 6, _ =>
    go_enter Tryz.func31, Tryz.ntmps31
    go_wp2_with fail
    go_ret
    exact ⟨rfl, hb⟩
  | 7, _ =>
    go_enter Tryz.func31, Tryz.ntmps31
    go_wp2_with fail
    go_ret
    exact ⟨rfl, hb⟩
  | 8, _ =>
    go_enter Tryz.func31, Tryz.ntmps31
    go_wp2_with fail
    go_ret
    exact ⟨rfl, hb⟩
  | 9, _ =>
    go_enter Tryz.func31, Tryz.ntmps31
    go_wp2_with fail
    go_ret
    exact ⟨rfl, hb⟩
  | 10, _ =>
    go_enter Tryz.func31, Tryz.ntmps31
    go_wp2_with fail
    go_ret
    exact ⟨rfl, hb⟩
  | 11, _ =>
    go_enter Tryz.func31, Tryz.ntmps31
    go_wp2_with fail
    go_ret
    exact ⟨rfl, hb⟩
  | 12, _ =>
    go_enter Tryz.func31, Tryz.ntmps31
    go_wp2_with fail
    go_ret
    exact ⟨rfl, hb⟩
end Go.Proofs.YtlgfickhkejdjaaGreatDoor

namespace Go.Proofs.YtlgfickhkejdjaaGreatDoor
open Go.RowKit Go.Maps

set_option maxRecDepth 100000 in
set_option maxHeartbeats 4000000 in
theorem refLevel_any (e : Tr.E) (p : Option Addr) (N c : Nat) (w : World) (ho : e.kind = 10 → 0 ≤ e.op ∧ e.op ≤ 12) :
    Calls Tryz.prog 67 #[exprV e (.slice p N c)] w fun r w' => r = .returned (.int .i64 (Sy.level e : Nat)) ∧ w' = w.alloc (.cells #[.int .i64 e.kind, .int .i64 e.op, .int .i64 e.int, .string e.name, .bool e.at_, .slice p N c] 24) := by
  obtain ⟨k, o, i, nm, a1, l⟩ := e
  unfold exprV
  simp only [Tr.E.kind, Tr.E.op, Tr.E.int, Tr.E.name, Tr.E.at_] at ho ⊢
  by_cases h10 : k = 10
  · subst h10
    obtain ⟨o0, o1⟩ := ho rfl
    obtain ⟨O, rfl⟩ : ∃ q : Nat, o = q := ⟨o.toNat, by omega⟩
    have KO := Lib.hid (refOpLevel_any O (by omega) (w.alloc (.cells #[.int .i64 10, .int .i64 O, .int .i64 i, .string nm, .bool a1, .slice p N c] 24)))
    clear ho
    go_enter Tryz.func67, Tryz.ntmps67
    go_wp2_with fail
    refine KO.out.mono ?_
    rintro e' w3 ⟨rfl, rfl⟩
    go_wp2_with fail
    go_ret
    exact ⟨rfl, rfl⟩
  · clear ho
    by_cases h9 : k = 9
    · subst h9
      go_enter Tryz.func67, Tryz.ntmps67
      go_wp2_with fail
      go_ret
      exact ⟨rfl, rfl⟩
    · have n9 : (k == 9) = false := beq_eq_false_iff_ne.2 h9
      by_cases h8 : k = 8
      · subst h8
        go_enter Tryz.func67, Tryz.ntmps67
        go_wp2_with fail
        go_ret
        exact ⟨rfl, rfl⟩
      · have n8 : (k == 8) = false := beq_eq_false_iff_ne.2 h8
        by_cases h6 : k = 6
        · subst h6
          go_enter Tryz.func67, Tryz.ntmps67
          go_wp2_with fail
          go_ret
          exact ⟨rfl, rfl⟩
        · have n6 : (k == 6) = false := beq_eq_false_iff_ne.2 h6
          by_cases h7 : k = 7
          · subst h7
            go_enter Tryz.func67, Tryz.ntmps67
            go_wp2_with fail
            go_ret
            exact ⟨rfl, rfl⟩
          · have n7 : (k == 7) = false := beq_eq_false_iff_ne.2 h7
            by_cases h5 : k = 5
            · subst h5
              cases a1
              · go_enter Tryz.func67, Tryz.ntmps67
                go_wp2_with fail
                go_ret
                exact ⟨rfl, rfl⟩
              · go_enter Tryz.func67, Tryz.ntmps67
                go_wp2_with fail
                go_ret
                exact ⟨rfl, rfl⟩
            · have n5 : (k == 5) = false := beq_eq_false_iff_ne.2 h5
              by_cases h4 : k = 4
              · subst h4
                go_enter Tryz.func67, Tryz.ntmps67
                go_wp2_with fail
                go_ret
                exact ⟨rfl, rfl⟩
              · have n4 : (k == 4) = false := beq_eq_false_iff_ne.2 h4
                have n10 : (k == 10) = false := beq_eq_false_iff_ne.2 h10
                have HV : Hid (Sy.levelK k o a1 = 9) := by show _ = _; unfold Sy.levelK; rw [if_neg h10, if_neg h9, if_neg (by omega), if_neg h5, if_neg h4]
                clear h10 h9 h8 h6 h7 h5 h4
                go_enter Tryz.func67, Tryz.ntmps67
                go_wp2_with fail
                go_ret
                exact ⟨by have h9 : Sy.level (.mk k o i nm a1 l) = 9 := HV.out; rw [h9]; rfl, rfl⟩
end Go.Proofs.YtlgfickhkejdjaaGreatDoor
