/-
  Several texts in one: SyEqE, SyEqX.
-/
import Derived.Test.YtlgfickhkejdjaaGreatDoorMSyF
namespace Go.Proofs.YtlgfickhkejdjaaGreatDoor
open Go.RowKit Go.Maps

def EqEC (d : Nat) : Prop := ∀ (x y : Tr.E) (v1 v2 : Value) (W : World), x.deep ≤ d → SlE W v1 x.args → SlE W v2 y.args →
  Calls Tryz.prog 17 #[exprV x v1, exprV y v2] W fun r w' => r = .returned (.bool (Sy.sameE x y)) ∧ Below W.heap.size W w'
theorem take_grow {α : Type} {l1 l2 : List α} {j : Nat} {x : α} (h : l1.take j = l2.take j) (h1 : l1[j]? = some x) (h2 : l2[j]? = some x) : l1.take (j + 1) = l2.take (j + 1) := by
  rw [List.take_add_one, List.take_add_one, h, h1, h2]

set_option maxRecDepth 100000 in
set_option maxHeartbeats 4000000 in
theorem eqFuncE_of {d : Nat} (hC : EqEC d) (l1 l2 : List Tr.E) (p1 : Option Addr) (N1 c1 : Nat) (p2 : Option Addr) (N2 c2 : Nat) (w : World) (hd : Tr.E.deep.deeps l1 ≤ d) (hN1 : l1.length = N1) (hN2 : l2.length = N2) (h1 : SlE w (.slice p1 N1 c1) l1) (h2 : SlE w (.slice p2 N2 c2) l2) :
    Calls Tryz.prog 45 #[.slice p1 N1 c1, .slice p2 N2 c2, .func (.func 17) #[] #[]] w fun r w' => r = .returned (.bool (Sy.sameEs l1 l2)) ∧ Below w.heap.size w w' := by
  have hn1 : N1 ≤ 9223372036854775807 := by
    have := h1.len
    rw [hN1] at this
    unfold maxLen at this
    exact this
  have hn2 : N2 ≤ 9223372036854775807 := by
    have := h2.len
    rw [hN2] at this
    unfold maxLen at this
    exact this
  have HC := Lib.hid hC
  have HD := Lib.hid hd
  have HN1 := Lib.hid hN1
  have HN2 := Lib.hid hN2
  have H1 := Lib.hid h1
  have H2 := Lib.hid h2
  clear hC hd hN1 hN2 h1 h2
  by_cases hne : N1 = N2
  · subst hne
    go_enter Tryz.func45, Tryz.ntmps45
    go_wp2_with fail
    go_loopg [7, 8, 9, 17] N1 (fun g s7 s8 s9 s17 wr => ∃ j : Nat, s17 = .int .i64 j ∧ j ≤ N1 ∧ g = N1 - j ∧ Hid (l1.take j = l2.take j) ∧ Hid (Below w.heap.size w wr))
    case atStart => exact ⟨0, rfl, Nat.zero_le _, rfl, rfl, Below.refl _ _⟩
    case round =>
      obtain ⟨j, rfl, hj, rfl, HT, HB⟩ := hrel
      by_cases hlt : j < N1
      · obtain ⟨x, hx⟩ : ∃ x, l1[j]? = some x := ⟨_, List.getElem?_eq_getElem (by rw [HN1.out]; exact hlt)⟩
        obtain ⟨y, hy⟩ : ∃ x, l2[j]? = some x := ⟨_, List.getElem?_eq_getElem (by rw [HN2.out]; exact hlt)⟩
        obtain ⟨b1, o1, a1, rfl, _, hc1, _, hsl1⟩ := H1.out.get hx
        obtain ⟨b2, o2, a2, rfl, _, hc2, _, hsl2⟩ := H2.out.get hy
        obtain ⟨q1, k1, rfl, _⟩ := hsl1.form
        obtain ⟨q2, k2, rfl, _⟩ := hsl2.form
        obtain ⟨A1, hA1⟩ : ∃ q, x.args.length = q := ⟨_, rfl⟩
        obtain ⟨A2, hA2⟩ : ∃ q, y.args.length = q := ⟨_, rfl⟩
        rw [hA1] at hsl1 hc1
        rw [hA2] at hsl2 hc2
        clear hA1 hA2
        obtain ⟨x0, x1, x2, x3, x4, x5⟩ := hc1.keep HB.out
        obtain ⟨y0, y1, y2, y3, y4, y5⟩ := hc2.keep HB.out
        have hb4 := HB.out.alloc HB.out.size (.cells #[.int .i64 x.kind, .int .i64 x.op, .int .i64 x.int, .string x.name, .bool x.at_, .slice q1 A1 k1] 24)
        have hb5 := hb4.alloc hb4.size (.cells #[.int .i64 y.kind, .int .i64 y.op, .int .i64 y.int, .string y.name, .bool y.at_, .slice q2 A2 k2] 24)
        obtain ⟨w5, hw5⟩ : ∃ q, q = (wr.alloc (.cells #[.int .i64 x.kind, .int .i64 x.op, .int .i64 x.int, .string x.name, .bool x.at_, .slice q1 A1 k1] 24)).alloc (.cells #[.int .i64 y.kind, .int .i64 y.op, .int .i64 y.int, .string y.name, .bool y.at_, .slice q2 A2 k2] 24) := ⟨_, rfl⟩
        rw [← hw5] at hb5
        have hcall := HC.out x y _ _ w5 (Nat.le_trans (Tr.E.deeps_get l1 j x hx) HD.out) (hsl1.keep hb5) (hsl2.keep hb5)
        unfold exprV at hcall
        have HW5 := Lib.hid hw5
        have HB5 := Lib.hid hb5
        have HX := Lib.hid hx
        have HY := Lib.hid hy
        have b3 : (j : Int) < (N1 : Int) := by omega
        have hl1 := cell_lt' x0
        have hl2 := cell_lt' y0
        obtain ⟨S, hSx⟩ : ∃ q, Sy.sameE x y = q := ⟨_, rfl⟩
        rw [hSx] at hcall
        have HSX := Lib.hid hSx
        have HCALL := Lib.hid hcall
        clear hx hy hc1 hc2 hsl1 hsl2 hb4 hb5 hw5 hcall hSx
        cases S
        · go_wp2_with fail
          rw [← HW5.out]
          refine HCALL.out.mono ?_
          rintro e' w6 ⟨rfl, hb6⟩
          have HB6 := Lib.hid (HB5.out.trans (hb6.mono HB5.out.size))
          clear hb6 HW5 x0 x1 x2 x3 x4 x5 y0 y1 y2 y3 y4 y5 hl1 hl2
          go_wp2_with fail
          go_ret
          refine ⟨?_, HB6.out⟩
          rw [show Sy.sameEs l1 l2 = false by
            rw [Bool.eq_false_iff]
            intro h
            rw [Sy.sameEs_iff] at h
            have h3 := HX.out
            rw [h, HY.out] at h3
            have h4 := HSX.out
            rw [Option.some.inj h3, (Sy.sameE_iff x x).2 rfl] at h4
            cases h4]
          rfl
        · go_wp2_with fail
          rw [← HW5.out]
          refine HCALL.out.mono ?_
          rintro e' w6 ⟨rfl, hb6⟩
          have HB6 := Lib.hid (HB5.out.trans (hb6.mono HB5.out.size))
          clear hb6 HW5 x0 x1 x2 x3 x4 x5 y0 y1 y2 y3 y4 y5 hl1 hl2
          go_wp2_with fail
          go_roundg (N1 - (j + 1))
          case measure => omega
          case rel => exact ⟨j + 1, by go_num, by omega, rfl, take_grow HT.out HX.out (by rw [HY.out, (Sy.sameE_iff x y).1 HSX.out]), HB6⟩
      · obtain rfl : j = N1 := by omega
        go_wp2_with fail
        go_ret
        refine ⟨?_, HB.out⟩
        rw [(Sy.sameEs_iff l1 l2).2 (by have h := HT.out; rw [List.take_of_length_le (by rw [HN1.out]; exact Nat.le_refl _), List.take_of_length_le (by rw [HN2.out]; exact Nat.le_refl _)] at h; exact h)]
        rfl
  · have hf : Sy.sameEs l1 l2 = false := by
      rw [Bool.eq_false_iff]
      intro h
      rw [Sy.sameEs_iff] at h
      exact hne (by rw [← HN1.out, ← HN2.out, h])
    rw [hf]
    clear hf
    have hne2 : ¬ (N1 : Int) = (N2 : Int) := by omega
    go_enter Tryz.func45, Tryz.ntmps45
    go_wp2_with fail
    go_ret
    exact ⟨rfl, Below.refl _ _⟩
end Go.Proofs.YtlgfickhkejdjaaGreatDoor

namespace Go.Proofs.YtlgfickhkejdjaaGreatDoor
open Go.RowKit Go.Maps

theorem list_ne {a b : ByteArray} (h : ¬ a = b) : ¬ a.toList = b.toList := by
  intro e
  rw [Lib.toList_data, Lib.toList_data] at e
  apply h
  cases a; cases b
  congr 1
  exact Array.toList_inj.1 e
set_option maxRecDepth 100000 in
set_option maxHeartbeats 4000000 in
theorem equalExpr_any : ∀ d : Nat, EqEC d := by
  intro d
  induction d with
  | zero => intro x y v1 v2 W hd; have := x.deep_pos; omega
  | succ d ih =>
    intro x y v1 v2 w hd h1 h2
    have hde := E_deep_eq x
    obtain ⟨k, o, i, nm, a, l⟩ := x
    obtain ⟨k', o', i', nm', a', l'⟩ := y
    have h1 : SlE w v1 l := h1
    have h2 : SlE w v2 l' := h2
    have hde : (Tr.E.mk k o i nm a l).deep = 1 + Tr.E.deep.deeps l := hde
    obtain ⟨p1, c1, rfl, _⟩ := h1.form
    obtain ⟨p2, c2, rfl, _⟩ := h2.form
    obtain ⟨N1, hN1⟩ : ∃ q, l.length = q := ⟨_, rfl⟩
    obtain ⟨N2, hN2⟩ : ∃ q, l'.length = q := ⟨_, rfl⟩
    rw [hN1] at h1 ⊢
    rw [hN2] at h2 ⊢
    have hb1 := below_box w (.cells #[.int .i64 k, .int .i64 o, .int .i64 i, .string nm, .bool a, .slice p1 N1 c1] 24)
    have hb2 := hb1.alloc hb1.size (.cells #[.int .i64 k', .int .i64 o', .int .i64 i', .string nm', .bool a', .slice p2 N2 c2] 24)
    obtain ⟨w2, hw2⟩ : ∃ q, q = (w.alloc (.cells #[.int .i64 k, .int .i64 o, .int .i64 i, .string nm, .bool a, .slice p1 N1 c1] 24)).alloc (.cells #[.int .i64 k', .int .i64 o', .int .i64 i', .string nm', .bool a', .slice p2 N2 c2] 24) := ⟨_, rfl⟩
    have HB2 : Hid (Below w.heap.size w w2) := by rw [hw2]; exact hb2
    have hcall := eqFuncE_of ih l l' p1 N1 c1 p2 N2 c2 w2 (by omega) hN1 hN2 (h1.keep HB2.out) (h2.keep HB2.out)
    have HCALL := Lib.hid hcall
    have HW2 := Lib.hid hw2
    unfold exprV
    simp only [Tr.E.kind, Tr.E.op, Tr.E.int, Tr.E.name, Tr.E.at_]
    clear hde h1 h2 hN1 hN2 hb1 hb2 hw2 hcall hd ih
    by_cases hk : k = k'
    · subst hk
      by_cases ho : o = o'
      · subst ho
        by_cases hi : i = i'
        · subst hi
          by_cases hn : nm = nm'
          · subst hn
            by_cases ha : a = a'
            · subst ha
              go_enter Tryz.func17, Tryz.ntmps17
              go_wp2_with fail
              rw [← HW2.out]
              refine HCALL.out.mono ?_
              rintro e' w3 ⟨rfl, hb3⟩
              have HB3 := Lib.hid (HB2.out.trans (hb3.mono HB2.out.size))
              clear hb3 HW2
              go_wp2_with fail
              go_ret
              exact ⟨by rw [Sy.sameE]; simp, HB3.out⟩
            · have hf : Sy.sameE (.mk k o i nm a l) (.mk k o i nm a' l') = false := by rw [Sy.sameE]; simp [ha]
              rw [hf]
              clear hf
              go_enter Tryz.func17, Tryz.ntmps17
              go_wp2_with fail
              rw [← HW2.out]
              go_ret
              exact ⟨rfl, HB2.out⟩
          · have hf : Sy.sameE (.mk k o i nm a l) (.mk k o i nm' a' l') = false := by rw [Sy.sameE]; simp [hn]
            have hn2 := list_ne hn
            rw [hf]
            clear hf
            go_enter Tryz.func17, Tryz.ntmps17
            go_wp2_with fail
            rw [← HW2.out]
            go_ret
            exact ⟨rfl, HB2.out⟩
        · have hf : Sy.sameE (.mk k o i nm a l) (.mk k o i' nm' a' l') = false := by rw [Sy.sameE]; simp [hi]
          rw [hf]
          clear hf
          go_enter Tryz.func17, Tryz.ntmps17
          go_wp2_with fail
          rw [← HW2.out]
          go_ret
          exact ⟨rfl, HB2.out⟩
      · have hf : Sy.sameE (.mk k o i nm a l) (.mk k o' i' nm' a' l') = false := by rw [Sy.sameE]; simp [ho]
        rw [hf]
        clear hf
        go_enter Tryz.func17, Tryz.ntmps17
        go_wp2_with fail
        rw [← HW2.out]
        go_ret
        exact ⟨rfl, HB2.out⟩
    · have hf : Sy.sameE (.mk k o i nm a l) (.mk k' o' i' nm' a' l') = false := by rw [Sy.sameE]; simp [hk]
      rw [hf]
      clear hf
      go_enter Tryz.func17, Tryz.ntmps17
      go_wp2_with fail
      rw [← HW2.out]
      go_ret
      exact ⟨rfl, HB2.out⟩
end Go.Proofs.YtlgfickhkejdjaaGreatDoor
