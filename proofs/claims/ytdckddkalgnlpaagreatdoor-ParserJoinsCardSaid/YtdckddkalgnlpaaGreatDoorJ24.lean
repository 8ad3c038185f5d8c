/-
  Several texts in one: PbJoin, SyEqE, SyEqX, SyEqS, SyEqM.
-/
import Derived.Test.YtdckddkalgnlpaaGreatDoorJ22
import Derived.Test.YtdckddkalgnlpaaGreatDoorJ17
import Derived.Test.YtdckddkalgnlpaaGreatDoorJ20
namespace Go.Proofs.YtdckddkalgnlpaaGreatDoor
namespace Pa
open Tr
/-- what is read is put behind a list -/
def R.put (l : List C) : R (List C) → R (List C)
  | .ok a r => .ok (l ++ a) r
  | .bad r => .bad r
theorem pP_put (l : List C) : ∀ (f : Nat) (m : List C) (ts : Toks), pP f (l ++ m) ts = (pP f m ts).put l
  | 0, m, ts => by rw [pP, pP]; rfl
  | f + 1, m, ts => by
    rw [pP, pP]
    split
    · rfl
    · cases pC f ts with
      | bad r => rfl
      | ok c r =>
        show pP f (l ++ m ++ [c]) r = (pP f (m ++ [c]) r).put l
        rw [List.append_assoc]
        exact pP_put l f (m ++ [c]) r
theorem pP_acc (l : List C) (f : Nat) (ts : Toks) : pP f l ts = (pP f [] ts).put l := by
  have h := pP_put l f [] ts
  rw [List.append_nil] at h
  exact h
/-- a program that is all is read on behind it -/
theorem pP_more (suf : Toks) : ∀ (f : Nat) (l : List C) (ts : Toks) (cs : List C), pP f l ts = .ok cs [] → ∃ j, l.length + j = cs.length ∧ j ≤ f ∧ pP f l (ts ++ suf) = pP (f - j) cs suf
  | 0, l, ts, cs, h => by rw [pP] at h; cases h
  | f + 1, l, ts, cs, h => by
    cases ts with
    | nil =>
      rw [pP, if_pos (show (([] : Toks).headD default).kind = 0 from rfl)] at h
      cases h
      exact ⟨0, rfl, Nat.zero_le _, rfl⟩
    | cons x r =>
      by_cases hk : x.kind = 0
      · rw [pP, if_pos (show ((x :: r).headD default).kind = 0 from hk)] at h
        cases h
      · rw [pP, if_neg (show ¬ ((x :: r).headD default).kind = 0 from hk)] at h
        cases hc : pC f (x :: r) with
        | bad q => rw [hc] at h; cases h
        | ok c q =>
          rw [hc] at h
          have h2 : pP f (l ++ [c]) q = .ok cs [] := h
          obtain ⟨j, h3, h4, h5⟩ := pP_more suf f (l ++ [c]) q cs h2
          have h6 : pC f (x :: r ++ suf) = .ok c (q ++ suf) := by
            cases hq : q with
            | nil => rw [hq] at hc; exact pC_closed f _ suf c hc
            | cons y ys =>
              have := (ext_pC f).2 (x :: r) suf (by rw [hc, hq]; exact List.cons_ne_nil _ _)
              rw [this, hc, hq]
              rfl
          rw [List.length_append, List.length_singleton] at h3
          refine ⟨j + 1, by omega, by omega, ?_⟩
          show pP (f + 1) l (x :: (r ++ suf)) = _
          rw [pP, if_neg (show ¬ ((x :: (r ++ suf)).headD default).kind = 0 from hk)]
          have h7 : pC f (x :: (r ++ suf)) = .ok c (q ++ suf) := h6
          rw [h7, show f + 1 - (j + 1) = f - j by omega]
          exact h5
theorem ev_more {ts suf : Toks} {cs : List C} (h : Ev (fun f => pP f [] ts) (.ok cs [])) {x : R (List C)} (h2 : Ev (fun f => pP f [] suf) x) : Ev (fun f => pP f [] (ts ++ suf)) (x.put cs) := by
  obtain ⟨F, h⟩ := h
  obtain ⟨G, h2⟩ := h2
  refine ⟨F + G + cs.length, fun f hf => ?_⟩
  obtain ⟨j, h3, h4, h5⟩ := pP_more suf f [] ts cs (h f (by omega))
  show pP f [] (ts ++ suf) = _
  have h6 : pP (f - j) [] suf = x := h2 (f - j) (by simp only [List.length_nil] at h3; omega)
  rw [h5, pP_acc, h6]
theorem ev_stop {ts suf r : Toks} (hr : r ≠ []) (h : Ev (fun f => pP f [] ts) (.bad r)) : Ev (fun f => pP f [] (ts ++ suf)) (.bad (r ++ suf)) := by
  obtain ⟨F, h⟩ := h
  refine ⟨F, fun f hf => ?_⟩
  have h1 : pP f [] ts = .bad r := h f hf
  have h2 := (ext_pP f []).2 ts suf (by rw [h1]; exact hr)
  show pP f [] (ts ++ suf) = _
  rw [h2, h1]
  rfl
/-- what Program answers to a source: the tree, the offset, the error -/
def PO (s : Bytes) (x : List C) (o er : Nat) : Prop :=
  (Lex.scan s = .bad o er ∧ x = []) ∨
  (∃ ts, Lex.scan s = .toks ts ∧ Ev (fun f => pP f [] (rest ts (ts.length - 1) 0)) (.ok x []) ∧ Sy.sizeP x ≤ 4000 ∧ o = 0 ∧ er = 0) ∨
  (∃ ts y, Lex.scan s = .toks ts ∧ Ev (fun f => pP f [] (rest ts (ts.length - 1) 0)) (.ok y []) ∧ 4000 < Sy.sizeP y ∧ x = [] ∧ o = 0 ∧ er = 8) ∨
  (∃ ts k t, Lex.scan s = .toks ts ∧ Ev (fun f => pP f [] (rest ts (ts.length - 1) 0)) (.bad (rest ts (ts.length - 1) k)) ∧ k ≤ ts.length - 1 ∧ ts[k]? = some t ∧ x = [] ∧ o = t.pos ∧ er = 3)
/-- short sources: three answers -/
theorem PO.short {s : Bytes} {x : List C} {o er : Nat} (h : PO s x o er) {ts : List Lex.Tok} (hs : Lex.scan s = .toks ts) (hl : s.length ≤ 2000) :
    (Ev (fun f => pP f [] (rest ts (ts.length - 1) 0)) (.ok x []) ∧ o = 0 ∧ er = 0) ∨ (∃ k t, Ev (fun f => pP f [] (rest ts (ts.length - 1) 0)) (.bad (rest ts (ts.length - 1) k)) ∧ k ≤ ts.length - 1 ∧ ts[k]? = some t ∧ x = [] ∧ o = t.pos ∧ er = 3) := by
  rcases h with ⟨h, _⟩ | ⟨ts', h, h1, _, h2⟩ | ⟨ts', y, h, h1, h2, _⟩ | ⟨ts', k, t, h, h1, h2⟩
  · rw [hs] at h; cases h
  · rw [hs] at h; cases h; exact .inl ⟨h1, h2⟩
  · rw [hs] at h; cases h
    have := read_prog_len hs h1
    omega
  · rw [hs] at h; cases h; exact .inr ⟨k, t, h1, h2⟩
theorem PO.off {s : Bytes} {x : List C} {o er : Nat} (h : PO s x o er) {ts : List Lex.Tok} (hs : Lex.scan s = .toks ts) : o ≤ 1000000 := by
  rcases h with ⟨h, _⟩ | ⟨_, _, _, _, rfl, _⟩ | ⟨_, _, _, _, _, _, rfl, _⟩ | ⟨ts', k, t, h, _, _, ht, _, rfl, _⟩
  · rw [hs] at h; cases h
  · exact Nat.zero_le _
  · exact Nat.zero_le _
  · exact ((scan_tkl h).1.pos t (List.mem_of_getElem? ht)).1
theorem PO.len {s : Bytes} {x : List C} {o er : Nat} (h : PO s x o er) (hl : s.length ≤ 2000) : x.length ≤ 2000 := by
  have key : ∀ l : List C, l.length ≤ Sy.sizeP l := by
    intro l
    induction l with
    | nil => exact Nat.zero_le _
    | cons c l ih =>
      unfold Sy.sizeP Sy.sizeC at *
      rw [List.map_cons, List.sum_cons, List.length_cons]
      omega
  rcases h with ⟨_, h⟩ | ⟨ts', h, h1, _⟩ | ⟨_, _, _, _, _, h, _⟩ | ⟨_, _, _, _, _, _, _, h, _⟩
  · rw [h]; exact Nat.zero_le _
  · have := read_prog_len h h1
    have := key x
    omega
  all_goals rw [h]; exact Nat.zero_le _
theorem PO.lex {s : Bytes} {x : List C} {o er p e : Nat} (h : PO s x o er) (hs : Lex.scan s = .bad p e) : o = p ∧ er = e ∧ x = [] := by
  rcases h with ⟨h, h2⟩ | ⟨ts', h, _⟩ | ⟨ts', y, h, _⟩ | ⟨ts', k, t, h, _⟩
  · rw [hs] at h; cases h; exact ⟨rfl, rfl, h2⟩
  all_goals rw [hs] at h; cases h
section
variable {a b : List Lex.Tok} {d : Nat}
theorem join_rest (hb : 0 < b.length) (k : Nat) (hk : k ≤ a.length - 1) : rest (a.dropLast ++ b.map (shiftT d)) ((a.dropLast ++ b.map (shiftT d)).length - 1) k = rest a (a.length - 1) k ++ rest b (b.length - 1) 0 := by
  have e : (a.dropLast ++ b.map (shiftT d)).length - 1 = a.dropLast.length + (b.length - 1) := by rw [List.length_append, List.length_map]; omega
  have hd : a.dropLast = a.take (a.length - 1) := List.dropLast_eq_take
  unfold rest
  rw [e, List.take_length_add_append, List.drop_append_of_le_length (by rw [List.length_dropLast]; exact hk), List.map_append, List.drop_zero, ← List.map_take, List.map_map, hd]
  rfl
theorem join_rest2 (hb : 0 < b.length) (k : Nat) : rest (a.dropLast ++ b.map (shiftT d)) ((a.dropLast ++ b.map (shiftT d)).length - 1) (a.length - 1 + k) = rest b (b.length - 1) k := by
  have e : (a.dropLast ++ b.map (shiftT d)).length - 1 = a.dropLast.length + (b.length - 1) := by rw [List.length_append, List.length_map]; omega
  unfold rest
  rw [e, List.take_length_add_append, show a.length - 1 + k = a.dropLast.length + k by rw [List.length_dropLast], List.drop_length_add_append, ← List.map_take, ← List.map_drop, List.map_map]
  rfl
end
theorem PO.join {s t : Bytes} {x y z : List C} {o1 e1 o2 e2 o3 e3 : Nat} (h1 : PO s x o1 e1) (h2 : PO t y o2 e2) (h3 : PO (s ++ 10 :: t) z o3 e3) (hs : s.length ≤ 300) (ht : t.length ≤ 300) {tt : List Lex.Tok} (htt : Lex.scan t = .toks tt) :
    (e1 ≠ 0 → e1 ≠ 3 ∨ o1 = s.length ∨ (e3 = e1 ∧ o3 = o1)) ∧ (e1 = 0 → e2 ≠ 0 → e3 = e2 ∧ o3 = s.length + 1 + o2) ∧ (e1 = 0 → e2 = 0 → e3 = 0 ∧ z = x ++ y) := by
  have hlj : (s ++ 10 :: t).length ≤ 2000 := by rw [List.length_append, List.length_cons]; omega
  cases hss : Lex.scan s with
  | bad p e =>
    obtain ⟨rfl, rfl, rfl⟩ := h1.lex hss
    have hpos := scan_badpos hss
    obtain ⟨rfl, rfl, _⟩ := h3.lex (scan_join_bad hs ht hss)
    exact ⟨fun _ => .inr (.inr ⟨rfl, rfl⟩), fun h => absurd h (by omega), fun h => absurd h (by omega)⟩
  | toks ts =>
    have hj := scan_join hs ht hss
    rw [htt] at hj
    have hj2 : Lex.scan (s ++ 10 :: t) = .toks (ts.dropLast ++ tt.map (shiftT (s.length + 1))) := hj
    obtain ⟨hA, _, hA0, _⟩ := scan_tkl hss
    obtain ⟨hB, _, hB0, _⟩ := scan_tkl htt
    obtain ⟨hJ, _, _, _⟩ := scan_tkl hj2
    have hla := scan_last hss
    have hJl : (ts.dropLast ++ tt.map (shiftT (s.length + 1))).length - 1 = ts.length - 1 + (tt.length - 1) := by rw [List.length_append, List.length_map, List.length_dropLast]; omega
    have e0 := join_rest (a := ts) (d := s.length + 1) hB0 0 (Nat.zero_le _)
    have h3' := h3.short hj2 hlj
    rw [e0] at h3'
    rcases h1.short hss (by omega) with ⟨hx, rfl, rfl⟩ | ⟨k, tk, hx, hk, htk, rfl, rfl, rfl⟩
    · refine ⟨fun h => absurd rfl h, fun _ he2 => ?_, fun _ he2 => ?_⟩
      · rcases h2.short htt (by omega) with ⟨_, _, rfl⟩ | ⟨k, tk, hy, hk, htk, rfl, rfl, rfl⟩
        · exact absurd rfl he2
        · have hb := ev_more hx hy
          have hb2 : Ev (fun f => pP f [] (rest ts (ts.length - 1) 0 ++ rest tt (tt.length - 1) 0)) (.bad (rest tt (tt.length - 1) k)) := hb
          rcases h3' with ⟨hz, _, _⟩ | ⟨k', tk', hz, hk', htk', rfl, rfl, rfl⟩
          · have := hb2.det hz
            cases this
          · have := hb2.det hz
            injection this with this
            rw [← join_rest2 (a := ts) (d := s.length + 1) hB0 k] at this
            have hkk := rest_inj hJ (show _ ≤ _ by rw [hJl]; omega) hk' this
            subst hkk
            rw [List.getElem?_append_right (by rw [List.length_dropLast]; omega), List.length_dropLast, show ts.length - 1 + k - (ts.length - 1) = k by omega, List.getElem?_map, htk] at htk'
            cases htk'
            exact ⟨rfl, by show tk.pos + (s.length + 1) = _; omega⟩
      · rcases h2.short htt (by omega) with ⟨hy, _, _⟩ | ⟨k, tk, hy, hk, htk, rfl, rfl, rfl⟩
        · have hb := ev_more hx hy
          have hb2 : Ev (fun f => pP f [] (rest ts (ts.length - 1) 0 ++ rest tt (tt.length - 1) 0)) (.ok (x ++ y) []) := hb
          rcases h3' with ⟨hz, _, rfl⟩ | ⟨k', tk', hz, hk', htk', rfl, rfl, rfl⟩
          · have := hb2.det hz
            injection this with this _
            exact ⟨rfl, this.symm⟩
          · have := hb2.det hz
            cases this
        · cases he2
    · refine ⟨fun _ => ?_, fun h => absurd h (by decide), fun h => absurd h (by decide)⟩
      right
      rcases Nat.lt_or_ge k (ts.length - 1) with hlt | hge
      · right
        have hne : rest ts (ts.length - 1) k ≠ [] := fun h => by
          have := congrArg List.length h
          rw [rest_len hA] at this
          exact absurd (Nat.sub_eq_zero_iff_le.1 this) (Nat.not_le.2 hlt)
        have hb := ev_stop (suf := rest tt (tt.length - 1) 0) hne hx
        rcases h3' with ⟨hz, _, _⟩ | ⟨k', tk', hz, hk', htk', rfl, rfl, rfl⟩
        · have := hb.det hz
          cases this
        · have := hb.det hz
          injection this with this
          rw [← join_rest (a := ts) (d := s.length + 1) hB0 k hk] at this
          have hkk := rest_inj hJ (show _ ≤ _ by rw [hJl]; omega) hk' this
          subst hkk
          rw [List.getElem?_append_left (by rw [List.length_dropLast]; omega), List.getElem?_dropLast, if_pos hlt, htk] at htk'
          cases htk'
          exact ⟨rfl, rfl⟩
      · left
        obtain rfl : k = ts.length - 1 := by omega
        rw [hla] at htk
        rw [List.getElem?_append_right (by rw [← hla, List.length_dropLast]; omega)] at htk
        have h0 : (ts.dropLast ++ [({ kind := 0, text := [], val := 0, pos := s.length } : Lex.Tok)]).length - 1 - ts.dropLast.length = 0 := by simp
        rw [h0] at htk
        cases htk
        rfl
end Pa
end Go.Proofs.YtdckddkalgnlpaaGreatDoor
namespace Go.Proofs.YtdckddkalgnlpaaGreatDoor
open Go.RowKit Go.Maps
def EqEC (d : Nat) : Prop := ∀ (x y : Tr.E) (v1 v2 : Value) (W : World), x.deep ≤ d → SlE W v1 x.args → SlE W v2 y.args →
  Calls Tryz.prog 19 #[exprV x v1, exprV y v2] W fun r w' => r = .returned (.bool (Sy.sameE x y)) ∧ Below W.heap.size W w'
theorem take_grow {α : Type} {l1 l2 : List α} {j : Nat} {x : α} (h : l1.take j = l2.take j) (h1 : l1[j]? = some x) (h2 : l2[j]? = some x) : l1.take (j + 1) = l2.take (j + 1) := by
  rw [List.take_add_one, List.take_add_one, h, h1, h2]
set_option maxRecDepth 100000 in
set_option maxHeartbeats 4000000 in
theorem eqFuncE_of {d : Nat} (hC : EqEC d) (l1 l2 : List Tr.E) (p1 : Option Addr) (N1 c1 : Nat) (p2 : Option Addr) (N2 c2 : Nat) (w : World) (hd : Tr.E.deep.deeps l1 ≤ d) (hN1 : l1.length = N1) (hN2 : l2.length = N2) (h1 : SlE w (.slice p1 N1 c1) l1) (h2 : SlE w (.slice p2 N2 c2) l2) :
    Calls Tryz.prog 43 #[.slice p1 N1 c1, .slice p2 N2 c2, .func (.func 19) #[] #[]] w fun r w' => r = .returned (.bool (Sy.sameEs l1 l2)) ∧ Below w.heap.size w w' := by
  have hn1 : N1 ≤ 9223372036854775807 := by
    have := h1.len
    rw [hN1] at this
    unfold maxLen at this
    exact this
  have hn2 : N2 ≤ 9223372036854775807 := by
    have := h2.len
    rw [hN2] at this
    unfold maxLen at this
    exact this
  have HC := Lib.hid hC
  have HD := Lib.hid hd
  have HN1 := Lib.hid hN1
  have HN2 := Lib.hid hN2
  have H1 := Lib.hid h1
  have H2 := Lib.hid h2
  clear hC hd hN1 hN2 h1 h2
  by_cases hne : N1 = N2
  · subst hne
    go_enter Tryz.func43, Tryz.ntmps43
    go_wp2_with fail
    go_loopg [7, 8, 9, 17] N1 (fun g s7 s8 s9 s17 wr => ∃ j : Nat, s17 = .int .i64 j ∧ j ≤ N1 ∧ g = N1 - j ∧ Hid (l1.take j = l2.take j) ∧ Hid (Below w.heap.size w wr))
    case atStart => exact ⟨0, rfl, Nat.zero_le _, rfl, rfl, Below.refl _ _⟩
    case round =>
      obtain ⟨j, rfl, hj, rfl, HT, HB⟩ := hrel
      by_cases hlt : j < N1
      · obtain ⟨x, hx⟩ : ∃ x, l1[j]? = some x := ⟨_, List.getElem?_eq_getElem (by rw [HN1.out]; exact hlt)⟩
        obtain ⟨y, hy⟩ : ∃ x, l2[j]? = some x := ⟨_, List.getElem?_eq_getElem (by rw [HN2.out]; exact hlt)⟩
        obtain ⟨b1, o1, a1, rfl, _, hc1, _, hsl1⟩ := H1.out.get hx
        obtain ⟨b2, o2, a2, rfl, _, hc2, _, hsl2⟩ := H2.out.get hy
        obtain ⟨q1, k1, rfl, _⟩ := hsl1.form
        obtain ⟨q2, k2, rfl, _⟩ := hsl2.form
        obtain ⟨A1, hA1⟩ : ∃ q, x.args.length = q := ⟨_, rfl⟩
        obtain ⟨A2, hA2⟩ : ∃ q, y.args.length = q := ⟨_, rfl⟩
        rw [hA1] at hsl1 hc1
        rw [hA2] at hsl2 hc2
        clear hA1 hA2
        obtain ⟨x0, x1, x2, x3, x4, x5⟩ := hc1.keep HB.out
        obtain ⟨y0, y1, y2, y3, y4, y5⟩ := hc2.keep HB.out
        have hb4 := HB.out.alloc HB.out.size (.cells #[.int .i64 x.kind, .int .i64 x.op, .int .i64 x.int, .string x.name, .bool x.at_, .slice q1 A1 k1] 33)
        have hb5 := hb4.alloc hb4.size (.cells #[.int .i64 y.kind, .int .i64 y.op, .int .i64 y.int, .string y.name, .bool y.at_, .slice q2 A2 k2] 33)
        obtain ⟨w5, hw5⟩ : ∃ q, q = (wr.alloc (.cells #[.int .i64 x.kind, .int .i64 x.op, .int .i64 x.int, .string x.name, .bool x.at_, .slice q1 A1 k1] 33)).alloc (.cells #[.int .i64 y.kind, .int .i64 y.op, .int .i64 y.int, .string y.name, .bool y.at_, .slice q2 A2 k2] 33) := ⟨_, rfl⟩
        rw [← hw5] at hb5
        have hcall := HC.out x y _ _ w5 (Nat.le_trans (Tr.E.deeps_get l1 j x hx) HD.out) (hsl1.keep hb5) (hsl2.keep hb5)
        unfold exprV at hcall
        have HW5 := Lib.hid hw5
        have HB5 := Lib.hid hb5
        have HX := Lib.hid hx
        have HY := Lib.hid hy
        have b3 : (j : Int) < (N1 : Int) := by omega
        have hl1 := cell_lt' x0
        have hl2 := cell_lt' y0
        obtain ⟨S, hSx⟩ : ∃ q, Sy.sameE x y = q := ⟨_, rfl⟩
        rw [hSx] at hcall
        have HSX := Lib.hid hSx
        have HCALL := Lib.hid hcall
        clear hx hy hc1 hc2 hsl1 hsl2 hb4 hb5 hw5 hcall hSx
        cases S
        · go_wp2_with fail
          rw [← HW5.out]
          refine HCALL.out.mono ?_
          rintro e' w6 ⟨rfl, hb6⟩
          have HB6 := Lib.hid (HB5.out.trans (hb6.mono HB5.out.size))
          clear hb6 HW5 x0 x1 x2 x3 x4 x5 y0 y1 y2 y3 y4 y5 hl1 hl2
          go_wp2_with fail
          go_ret
          refine ⟨?_, HB6.out⟩
          rw [show Sy.sameEs l1 l2 = false by
            rw [Bool.eq_false_iff]
            intro h
            rw [Sy.sameEs_iff] at h
            have h3 := HX.out
            rw [h, HY.out] at h3
            have h4 := HSX.out
            rw [Option.some.inj h3, (Sy.sameE_iff x x).2 rfl] at h4
            cases h4]
          rfl
        · go_wp2_with fail
          rw [← HW5.out]
          refine HCALL.out.mono ?_
          rintro e' w6 ⟨rfl, hb6⟩
          have HB6 := Lib.hid (HB5.out.trans (hb6.mono HB5.out.size))
          clear hb6 HW5 x0 x1 x2 x3 x4 x5 y0 y1 y2 y3 y4 y5 hl1 hl2
          go_wp2_with fail
          go_roundg (N1 - (j + 1))
          case measure => omega
          case rel => exact ⟨j + 1, by go_num, by omega, rfl, take_grow HT.out HX.out (by rw [HY.out, (Sy.sameE_iff x y).1 HSX.out]), HB6⟩
      · obtain rfl : j = N1 := by omega
        go_wp2_with fail
        go_ret
        refine ⟨?_, HB.out⟩
        rw [(Sy.sameEs_iff l1 l2).2 (by have h := HT.out; rw [List.take_of_length_le (by rw [HN1.out]; exact Nat.le_refl _), List.take_of_length_le (by rw [HN2.out]; exact Nat.le_refl _)] at h; exact h)]
        rfl
  · have hf : Sy.sameEs l1 l2 = false := by
      rw [Bool.eq_false_iff]
      intro h
      rw [Sy.sameEs_iff] at h
      exact hne (by rw [← HN1.out, ← HN2.out, h])
    rw [hf]
    clear hf
    have hne2 : ¬ (N1 : Int) = (N2 : Int) := by omega
    go_enter Tryz.func43, Tryz.ntmps43
    go_wp2_with fail
    go_ret
    exact ⟨rfl, Below.refl _ _⟩
end Go.Proofs.YtdckddkalgnlpaaGreatDoor
namespace Go.Proofs.YtdckddkalgnlpaaGreatDoor
open Go.RowKit Go.Maps
theorem list_ne {a b : ByteArray} (h : ¬ a = b) : ¬ a.toList = b.toList := by
  intro e
  rw [Lib.toList_data, Lib.toList_data] at e
  apply h
  cases a; cases b
  congr 1
  exact Array.toList_inj.1 e
set_option maxRecDepth 100000 in
set_option maxHeartbeats 4000000 in
theorem equalExpr_any : ∀ d : Nat, EqEC d := by
  intro d
  induction d with
  | zero => intro x y v1 v2 W hd; have := x.deep_pos; omega
  | succ d ih =>
    intro x y v1 v2 w hd h1 h2
    have hde := E_deep_eq x
    obtain ⟨k, o, i, nm, a, l⟩ := x
    obtain ⟨k', o', i', nm', a', l'⟩ := y
    have h1 : SlE w v1 l := h1
    have h2 : SlE w v2 l' := h2
    have hde : (Tr.E.mk k o i nm a l).deep = 1 + Tr.E.deep.deeps l := hde
    obtain ⟨p1, c1, rfl, _⟩ := h1.form
    obtain ⟨p2, c2, rfl, _⟩ := h2.form
    obtain ⟨N1, hN1⟩ : ∃ q, l.length = q := ⟨_, rfl⟩
    obtain ⟨N2, hN2⟩ : ∃ q, l'.length = q := ⟨_, rfl⟩
    rw [hN1] at h1 ⊢
    rw [hN2] at h2 ⊢
    have hb1 := below_box w (.cells #[.int .i64 k, .int .i64 o, .int .i64 i, .string nm, .bool a, .slice p1 N1 c1] 33)
    have hb2 := hb1.alloc hb1.size (.cells #[.int .i64 k', .int .i64 o', .int .i64 i', .string nm', .bool a', .slice p2 N2 c2] 33)
    obtain ⟨w2, hw2⟩ : ∃ q, q = (w.alloc (.cells #[.int .i64 k, .int .i64 o, .int .i64 i, .string nm, .bool a, .slice p1 N1 c1] 33)).alloc (.cells #[.int .i64 k', .int .i64 o', .int .i64 i', .string nm', .bool a', .slice p2 N2 c2] 33) := ⟨_, rfl⟩
    have HB2 : Hid (Below w.heap.size w w2) := by rw [hw2]; exact hb2
    have hcall := eqFuncE_of ih l l' p1 N1 c1 p2 N2 c2 w2 (by omega) hN1 hN2 (h1.keep HB2.out) (h2.keep HB2.out)
    have HCALL := Lib.hid hcall
    have HW2 := Lib.hid hw2
    unfold exprV
    simp only [Tr.E.kind, Tr.E.op, Tr.E.int, Tr.E.name, Tr.E.at_]
    clear hde h1 h2 hN1 hN2 hb1 hb2 hw2 hcall hd ih
    by_cases hk : k = k'
    · subst hk
      by_cases ho : o = o'
      · subst ho
        by_cases hi : i = i'
        · subst hi
          by_cases hn : nm = nm'
          · subst hn
            by_cases ha : a = a'
            · subst ha
              go_enter Tryz.func19, Tryz.ntmps19
              go_wp2_with fail
              rw [← HW2.out]
              refine HCALL.out.mono ?_
              rintro e' w3 ⟨rfl, hb3⟩
              have HB3 := Lib.hid (HB2.out.trans (hb3.mono HB2.out.size))
              clear hb3 HW2
              go_wp2_with fail
              go_ret
              exact ⟨by rw [Sy.sameE]; simp, HB3.out⟩
            · have hf : Sy.sameE (.mk k o i nm a l) (.mk k o i nm a' l') = false := by rw [Sy.sameE]; simp [ha]
              rw [hf]
              clear hf
              go_enter Tryz.func19, Tryz.ntmps19
              go_wp2_with fail
              rw [← HW2.out]
              go_ret
              exact ⟨rfl, HB2.out⟩
          · have hf : Sy.sameE (.mk k o i nm a l) (.mk k o i nm' a' l') = false := by rw [Sy.sameE]; simp [hn]
            have hn2 := list_ne hn
            rw [hf]
            clear hf
            go_enter Tryz.func19, Tryz.ntmps19
            go_wp2_with fail
            rw [← HW2.out]
            go_ret
            exact ⟨rfl, HB2.out⟩
        · have hf : Sy.sameE (.mk k o i nm a l) (.mk k o i' nm' a' l') = false := by rw [Sy.sameE]; simp [hi]
          rw [hf]
          clear hf
          go_enter Tryz.func19, Tryz.ntmps19
          go_wp2_with fail
          rw [← HW2.out]
          go_ret
          exact ⟨rfl, HB2.out⟩
      · have hf : Sy.sameE (.mk k o i nm a l) (.mk k o' i' nm' a' l') = false := by rw [Sy.sameE]; simp [ho]
        rw [hf]
        clear hf
        go_enter Tryz.func19, Tryz.ntmps19
        go_wp2_with fail
        rw [← HW2.out]
        go_ret
        exact ⟨rfl, HB2.out⟩
    · have hf : Sy.sameE (.mk k o i nm a l) (.mk k' o' i' nm' a' l') = false := by rw [Sy.sameE]; simp [hk]
      rw [hf]
      clear hf
      go_enter Tryz.func19, Tryz.ntmps19
      go_wp2_with fail
      rw [← HW2.out]
      go_ret
      exact ⟨rfl, HB2.out⟩
end Go.Proofs.YtdckddkalgnlpaaGreatDoor
namespace Go.Proofs.YtdckddkalgnlpaaGreatDoor
open Go.RowKit Go.Maps
def EqSC (d : Nat) : Prop := ∀ (x y : Tr.S) (x1 y1 z1 x2 y2 z2 : Value) (W : World), x.deep ≤ d → SlE W x1 x.exprs → SlS W y1 x.body → SlS W z1 x.els → SlE W x2 y.exprs → SlS W y2 y.body → SlS W z2 y.els →
  Calls Tryz.prog 138 #[stmtV x x1 y1 z1, stmtV y x2 y2 z2] W fun r w' => r = .returned (.bool (Sy.sameS x y)) ∧ Below W.heap.size W w'
set_option maxRecDepth 100000 in
set_option maxHeartbeats 4000000 in
theorem eqFuncS_of {d : Nat} (hC : EqSC d) (l1 l2 : List Tr.S) (p1 : Option Addr) (N1 c1 : Nat) (p2 : Option Addr) (N2 c2 : Nat) (w : World) (hd : Tr.S.deep.deeps l1 ≤ d) (hN1 : l1.length = N1) (hN2 : l2.length = N2) (h1 : SlS w (.slice p1 N1 c1) l1) (h2 : SlS w (.slice p2 N2 c2) l2) :
    Calls Tryz.prog 137 #[.slice p1 N1 c1, .slice p2 N2 c2, .func (.func 138) #[] #[]] w fun r w' => r = .returned (.bool (Sy.sameSs l1 l2)) ∧ Below w.heap.size w w' := by
  have hn1 : N1 ≤ 9223372036854775807 := by
    have := h1.len
    rw [hN1] at this
    unfold maxLen at this
    exact this
  have hn2 : N2 ≤ 9223372036854775807 := by
    have := h2.len
    rw [hN2] at this
    unfold maxLen at this
    exact this
  have HC := Lib.hid hC
  have HD := Lib.hid hd
  have HN1 := Lib.hid hN1
  have HN2 := Lib.hid hN2
  have H1 := Lib.hid h1
  have H2 := Lib.hid h2
  clear hC hd hN1 hN2 h1 h2
  by_cases hne : N1 = N2
  · subst hne
    go_enter Tryz.func137, Tryz.ntmps137
    go_wp2_with fail
    go_loopg [7, 8, 9, 17] N1 (fun g s7 s8 s9 s17 wr => ∃ j : Nat, s17 = .int .i64 j ∧ j ≤ N1 ∧ g = N1 - j ∧ Hid (l1.take j = l2.take j) ∧ Hid (Below w.heap.size w wr))
    case atStart => exact ⟨0, rfl, Nat.zero_le _, rfl, rfl, Below.refl _ _⟩
    case round =>
      obtain ⟨j, rfl, hj, rfl, HT, HB⟩ := hrel
      by_cases hlt : j < N1
      · obtain ⟨x, hx⟩ : ∃ x, l1[j]? = some x := ⟨_, List.getElem?_eq_getElem (by rw [HN1.out]; exact hlt)⟩
        obtain ⟨y, hy⟩ : ∃ x, l2[j]? = some x := ⟨_, List.getElem?_eq_getElem (by rw [HN2.out]; exact hlt)⟩
        obtain ⟨b1, o1, vx1, vy1, vz1, rfl, _, hc1, _, hx1, hy1, hz1⟩ := H1.out.get hx
        obtain ⟨px1, kx1, rfl, _⟩ := hx1.form
        obtain ⟨Ax1, hAx1⟩ : ∃ q, x.exprs.length = q := ⟨_, rfl⟩
        rw [hAx1] at hx1 hc1
        clear hAx1
        obtain ⟨py1, ky1, rfl, _⟩ := hy1.form
        obtain ⟨Ay1, hAy1⟩ : ∃ q, x.body.length = q := ⟨_, rfl⟩
        rw [hAy1] at hy1 hc1
        clear hAy1
        obtain ⟨pz1, kz1, rfl, _⟩ := hz1.form
        obtain ⟨Az1, hAz1⟩ : ∃ q, x.els.length = q := ⟨_, rfl⟩
        rw [hAz1] at hz1 hc1
        clear hAz1
        obtain ⟨b2, o2, vx2, vy2, vz2, rfl, _, hc2, _, hx2, hy2, hz2⟩ := H2.out.get hy
        obtain ⟨px2, kx2, rfl, _⟩ := hx2.form
        obtain ⟨Ax2, hAx2⟩ : ∃ q, y.exprs.length = q := ⟨_, rfl⟩
        rw [hAx2] at hx2 hc2
        clear hAx2
        obtain ⟨py2, ky2, rfl, _⟩ := hy2.form
        obtain ⟨Ay2, hAy2⟩ : ∃ q, y.body.length = q := ⟨_, rfl⟩
        rw [hAy2] at hy2 hc2
        clear hAy2
        obtain ⟨pz2, kz2, rfl, _⟩ := hz2.form
        obtain ⟨Az2, hAz2⟩ : ∃ q, y.els.length = q := ⟨_, rfl⟩
        rw [hAz2] at hz2 hc2
        clear hAz2
        obtain ⟨x0, x1, x2, x3, x4⟩ := hc1.keep HB.out
        obtain ⟨y0, y1, y2, y3, y4⟩ := hc2.keep HB.out
        have hb4 := HB.out.alloc HB.out.size (.cells #[.int .i64 x.kind, .string x.name, .slice px1 Ax1 kx1, .slice py1 Ay1 ky1, .slice pz1 Az1 kz1] 94)
        have hb5 := hb4.alloc hb4.size (.cells #[.int .i64 y.kind, .string y.name, .slice px2 Ax2 kx2, .slice py2 Ay2 ky2, .slice pz2 Az2 kz2] 94)
        obtain ⟨w5, hw5⟩ : ∃ q, q = (wr.alloc (.cells #[.int .i64 x.kind, .string x.name, .slice px1 Ax1 kx1, .slice py1 Ay1 ky1, .slice pz1 Az1 kz1] 94)).alloc (.cells #[.int .i64 y.kind, .string y.name, .slice px2 Ax2 kx2, .slice py2 Ay2 ky2, .slice pz2 Az2 kz2] 94) := ⟨_, rfl⟩
        rw [← hw5] at hb5
        have hcall := HC.out x y _ _ _ _ _ _ w5 (Nat.le_trans (Tr.S.deeps_get l1 j x hx) HD.out) (hx1.keep hb5) (hy1.keep hb5) (hz1.keep hb5) (hx2.keep hb5) (hy2.keep hb5) (hz2.keep hb5)
        unfold stmtV at hcall
        have HW5 := Lib.hid hw5
        have HB5 := Lib.hid hb5
        have HX := Lib.hid hx
        have HY := Lib.hid hy
        have b3 : (j : Int) < (N1 : Int) := by omega
        have hl1 := cell_lt' x0
        have hl2 := cell_lt' y0
        obtain ⟨S, hSx⟩ : ∃ q, Sy.sameS x y = q := ⟨_, rfl⟩
        rw [hSx] at hcall
        have HSX := Lib.hid hSx
        have HCALL := Lib.hid hcall
        clear hx hy hc1 hc2 hx1 hy1 hz1 hx2 hy2 hz2 hb4 hb5 hw5 hcall hSx
        cases S
        · go_wp2_with fail
          rw [← HW5.out]
          refine HCALL.out.mono ?_
          rintro e' w6 ⟨rfl, hb6⟩
          have HB6 := Lib.hid (HB5.out.trans (hb6.mono HB5.out.size))
          clear hb6 HW5 x0 x1 x2 x3 x4 y0 y1 y2 y3 y4 hl1 hl2
          go_wp2_with fail
          go_ret
          refine ⟨?_, HB6.out⟩
          rw [show Sy.sameSs l1 l2 = false by
            rw [Bool.eq_false_iff]
            intro h
            rw [Sy.sameSs_iff] at h
            have h3 := HX.out
            rw [h, HY.out] at h3
            have h4 := HSX.out
            rw [Option.some.inj h3, (Sy.sameS_iff x x).2 rfl] at h4
            cases h4]
          rfl
        · go_wp2_with fail
          rw [← HW5.out]
          refine HCALL.out.mono ?_
          rintro e' w6 ⟨rfl, hb6⟩
          have HB6 := Lib.hid (HB5.out.trans (hb6.mono HB5.out.size))
          clear hb6 HW5 x0 x1 x2 x3 x4 y0 y1 y2 y3 y4 hl1 hl2
          go_wp2_with fail
          go_roundg (N1 - (j + 1))
          case measure => omega
          case rel => exact ⟨j + 1, by go_num, by omega, rfl, take_grow HT.out HX.out (by rw [HY.out, (Sy.sameS_iff x y).1 HSX.out]), HB6⟩
      · obtain rfl : j = N1 := by omega
        go_wp2_with fail
        go_ret
        refine ⟨?_, HB.out⟩
        rw [(Sy.sameSs_iff l1 l2).2 (by have h := HT.out; rw [List.take_of_length_le (by rw [HN1.out]; exact Nat.le_refl _), List.take_of_length_le (by rw [HN2.out]; exact Nat.le_refl _)] at h; exact h)]
        rfl
  · have hf : Sy.sameSs l1 l2 = false := by
      rw [Bool.eq_false_iff]
      intro h
      rw [Sy.sameSs_iff] at h
      exact hne (by rw [← HN1.out, ← HN2.out, h])
    rw [hf]
    clear hf
    have hne2 : ¬ (N1 : Int) = (N2 : Int) := by omega
    go_enter Tryz.func137, Tryz.ntmps137
    go_wp2_with fail
    go_ret
    exact ⟨rfl, Below.refl _ _⟩
set_option maxRecDepth 100000 in
set_option maxHeartbeats 4000000 in
theorem equalStmt_any : ∀ d : Nat, EqSC d := by
  intro d
  induction d with
  | zero => intro x y _ _ _ _ _ _ W hd; have := x.deep_pos; omega
  | succ d ih =>
    intro x y vx1 vy1 vz1 vx2 vy2 vz2 w hd hx1 hy1 hz1 hx2 hy2 hz2
    have hde := S_deep_eq x
    obtain ⟨k, nm, xs, bs, ls⟩ := x
    obtain ⟨k', nm', xs', bs', ls'⟩ := y
    have hx1 : SlE w vx1 xs := hx1
    have hy1 : SlS w vy1 bs := hy1
    have hz1 : SlS w vz1 ls := hz1
    have hx2 : SlE w vx2 xs' := hx2
    have hy2 : SlS w vy2 bs' := hy2
    have hz2 : SlS w vz2 ls' := hz2
    have hde : (Tr.S.mk k nm xs bs ls).deep = 1 + max (Tr.S.deep.deeps bs) (Tr.S.deep.deeps ls) := hde
    obtain ⟨px1, kx1, rfl, _⟩ := hx1.form
    obtain ⟨Ax1, hAx1⟩ : ∃ q, xs.length = q := ⟨_, rfl⟩
    rw [hAx1] at hx1 ⊢
    obtain ⟨py1, ky1, rfl, _⟩ := hy1.form
    obtain ⟨Ay1, hAy1⟩ : ∃ q, bs.length = q := ⟨_, rfl⟩
    rw [hAy1] at hy1 ⊢
    obtain ⟨pz1, kz1, rfl, _⟩ := hz1.form
    obtain ⟨Az1, hAz1⟩ : ∃ q, ls.length = q := ⟨_, rfl⟩
    rw [hAz1] at hz1 ⊢
    obtain ⟨px2, kx2, rfl, _⟩ := hx2.form
    obtain ⟨Ax2, hAx2⟩ : ∃ q, xs'.length = q := ⟨_, rfl⟩
    rw [hAx2] at hx2 ⊢
    obtain ⟨py2, ky2, rfl, _⟩ := hy2.form
    obtain ⟨Ay2, hAy2⟩ : ∃ q, bs'.length = q := ⟨_, rfl⟩
    rw [hAy2] at hy2 ⊢
    obtain ⟨pz2, kz2, rfl, _⟩ := hz2.form
    obtain ⟨Az2, hAz2⟩ : ∃ q, ls'.length = q := ⟨_, rfl⟩
    rw [hAz2] at hz2 ⊢
    have hb1 := below_box w (.cells #[.int .i64 k, .string nm, .slice px1 Ax1 kx1, .slice py1 Ay1 ky1, .slice pz1 Az1 kz1] 94)
    have hb2 := hb1.alloc hb1.size (.cells #[.int .i64 k', .string nm', .slice px2 Ax2 kx2, .slice py2 Ay2 ky2, .slice pz2 Az2 kz2] 94)
    obtain ⟨w2, hw2⟩ : ∃ q, q = (w.alloc (.cells #[.int .i64 k, .string nm, .slice px1 Ax1 kx1, .slice py1 Ay1 ky1, .slice pz1 Az1 kz1] 94)).alloc (.cells #[.int .i64 k', .string nm', .slice px2 Ax2 kx2, .slice py2 Ay2 ky2, .slice pz2 Az2 kz2] 94) := ⟨_, rfl⟩
    have HB2 : Hid (Below w.heap.size w w2) := by rw [hw2]; exact hb2
    have hc1 := (MapKept.heap_alloc w (.cells #[.int .i64 k, .string nm, .slice px1 Ax1 kx1, .slice py1 Ay1 ky1, .slice pz1 Az1 kz1] 94)).1
    have hc2 := (MapKept.heap_alloc (w.alloc (.cells #[.int .i64 k, .string nm, .slice px1 Ax1 kx1, .slice py1 Ay1 ky1, .slice pz1 Az1 kz1] 94)) (.cells #[.int .i64 k', .string nm', .slice px2 Ax2 kx2, .slice py2 Ay2 ky2, .slice pz2 Az2 kz2] 94)).1
    have hbk := below_box (w.alloc (.cells #[.int .i64 k, .string nm, .slice px1 Ax1 kx1, .slice py1 Ay1 ky1, .slice pz1 Az1 kz1] 94)) (.cells #[.int .i64 k', .string nm', .slice px2 Ax2 kx2, .slice py2 Ay2 ky2, .slice pz2 Az2 kz2] 94)
    have hc1' := (hbk.block _ (Array.getElem?_eq_some_iff.1 hc1).1).trans hc1
    obtain ⟨B2, hB2⟩ : ∃ q, (w.alloc (.cells #[.int .i64 k, .string nm, .slice px1 Ax1 kx1, .slice py1 Ay1 ky1, .slice pz1 Az1 kz1] 94)).heap.size = q := ⟨_, rfl⟩
    have hB2' : B2 = w.heap.size + 1 := by rw [← hB2]; exact World.size_alloc _ _
    rw [hB2, hB2', ← hw2] at hc2
    rw [← hw2] at hc1'
    have HC1 := Lib.hid hc1'
    have HC2 := Lib.hid hc2
    have KX := Lib.hid (eqFuncE_of (equalExpr_any _) xs xs' px1 Ax1 kx1 px2 Ax2 kx2 w2 (Nat.le_refl _) hAx1 hAx2 (hx1.keep HB2.out) (hx2.keep HB2.out))
    have KY : Hid (∀ W, Below w.heap.size w W → Calls Tryz.prog 137 #[.slice py1 Ay1 ky1, .slice py2 Ay2 ky2, .func (.func 138) #[] #[]] W fun r w' => r = .returned (.bool (Sy.sameSs bs bs')) ∧ Below W.heap.size W w') := fun W hb => eqFuncS_of ih bs bs' py1 Ay1 ky1 py2 Ay2 ky2 W (by omega) hAy1 hAy2 (hy1.keep hb) (hy2.keep hb)
    have KZ : Hid (∀ W, Below w.heap.size w W → Calls Tryz.prog 137 #[.slice pz1 Az1 kz1, .slice pz2 Az2 kz2, .func (.func 138) #[] #[]] W fun r w' => r = .returned (.bool (Sy.sameSs ls ls')) ∧ Below W.heap.size W w') := fun W hb => eqFuncS_of ih ls ls' pz1 Az1 kz1 pz2 Az2 kz2 W (by omega) hAz1 hAz2 (hz1.keep hb) (hz2.keep hb)
    have HW2 := Lib.hid hw2
    unfold stmtV
    simp only [Tr.S.kind, Tr.S.name]
    have hsame : Sy.sameS (.mk k nm xs bs ls) (.mk k' nm' xs' bs' ls') = (decide (k = k') && decide (nm = nm') && Sy.sameEs xs xs' && Sy.sameSs bs bs' && Sy.sameSs ls ls') := by rw [Sy.sameS]
    rw [hsame]
    obtain ⟨qx, hqx⟩ : ∃ q, Sy.sameEs xs xs' = q := ⟨_, rfl⟩
    obtain ⟨qy, hqy⟩ : ∃ q, Sy.sameSs bs bs' = q := ⟨_, rfl⟩
    obtain ⟨qz, hqz⟩ : ∃ q, Sy.sameSs ls ls' = q := ⟨_, rfl⟩
    rw [hqx] at KX ⊢
    rw [hqy] at KY ⊢
    rw [hqz] at KZ ⊢
    clear hde hx1 hy1 hz1 hx2 hy2 hz2 hAx1 hAy1 hAz1 hAx2 hAy2 hAz2 hb1 hb2 hw2 hc1 hc2 hbk hc1' hB2 hB2' hd ih hsame hqx hqy hqz
    by_cases hk : k = k'
    · subst hk
      by_cases hn : nm = nm'
      · subst hn
        have HC12 := HC1
        have HC22 := HC2
        go_enter Tryz.func138, Tryz.ntmps138
        go_wp2_with fail
        rw [← HW2.out]
        refine KX.out.mono ?_
        rintro e' w3 ⟨rfl, hb⟩
        have HB3 := Lib.hid (HB2.out.trans (hb.mono HB2.out.size))
        have HC13 := Lib.hid ((hb.block _ (Array.getElem?_eq_some_iff.1 HC12.out).1).trans HC12.out)
        have HC23 := Lib.hid ((hb.block _ (Array.getElem?_eq_some_iff.1 HC22.out).1).trans HC22.out)
        clear hb
        clear HW2
        cases qx
        · go_wp2_with fail
          go_ret
          exact ⟨by simp, HB3.out⟩
        · have u1 := cell_of_blkP HC13.out (j := 3) (u := .slice py1 Ay1 ky1) rfl
          have u2 := cell_of_blkP HC23.out (j := 3) (u := .slice py2 Ay2 ky2) rfl
          go_wp2_with fail
          refine (KY.out _ HB3.out).mono ?_
          rintro e' w4 ⟨rfl, hb⟩
          have HB4 := Lib.hid (HB3.out.trans (hb.mono HB3.out.size))
          have HC14 := Lib.hid ((hb.block _ (Array.getElem?_eq_some_iff.1 HC13.out).1).trans HC13.out)
          have HC24 := Lib.hid ((hb.block _ (Array.getElem?_eq_some_iff.1 HC23.out).1).trans HC23.out)
          clear hb
          clear u1 u2
          cases qy
          · go_wp2_with fail
            go_ret
            exact ⟨by simp, HB4.out⟩
          · have u1 := cell_of_blkP HC14.out (j := 4) (u := .slice pz1 Az1 kz1) rfl
            have u2 := cell_of_blkP HC24.out (j := 4) (u := .slice pz2 Az2 kz2) rfl
            go_wp2_with fail
            refine (KZ.out _ HB4.out).mono ?_
            rintro e' w5 ⟨rfl, hb⟩
            have HB5 := Lib.hid (HB4.out.trans (hb.mono HB4.out.size))
            clear hb
            clear u1 u2
            go_wp2_with fail
            go_ret
            exact ⟨by simp, HB5.out⟩
      · have hn2 := list_ne hn
        go_enter Tryz.func138, Tryz.ntmps138
        go_wp2_with fail
        rw [← HW2.out]
        go_ret
        exact ⟨by simp [hn], HB2.out⟩
    · go_enter Tryz.func138, Tryz.ntmps138
      go_wp2_with fail
      rw [← HW2.out]
      go_ret
      exact ⟨by simp [hk], HB2.out⟩
end Go.Proofs.YtdckddkalgnlpaaGreatDoor
namespace Go.Proofs.YtdckddkalgnlpaaGreatDoor
open Go.RowKit Go.Maps
set_option maxRecDepth 100000 in
set_option maxHeartbeats 4000000 in
theorem strEq_any (l1 l2 : List ByteArray) (p1 : Option Addr) (N1 c1 : Nat) (p2 : Option Addr) (N2 c2 : Nat) (w : World) (hN1 : l1.length = N1) (hN2 : l2.length = N2) (h1 : SlStr w (.slice p1 N1 c1) l1) (h2 : SlStr w (.slice p2 N2 c2) l2) :
    Calls Tryz.prog 84 #[.slice p1 N1 c1, .slice p2 N2 c2] w fun r w' => r = .returned (.bool (decide (l1 = l2))) ∧ Below w.heap.size w w' := by
  have hn1 : N1 ≤ 9223372036854775807 := by
    have := h1.len
    rw [hN1] at this
    unfold maxLen at this
    exact this
  have hn2 : N2 ≤ 9223372036854775807 := by
    have := h2.len
    rw [hN2] at this
    unfold maxLen at this
    exact this
  by_cases hne : N1 = N2
  · subst hne
    match l1, l2, hN1, hN2 with
    | [], [], hN1, _ =>
      obtain rfl : N1 = 0 := hN1.symm
      refine (Tryz.slices_Equal_string_empty p1 p2 c1 0 c2 w (by omega)).mono ?_
      rintro e w' ⟨rfl, rfl⟩
      exact ⟨by simp, Below.refl _ _⟩
    | x :: xs, y :: ys, hN1, hN2 =>
      obtain ⟨b1, o1, rfl, _, _⟩ := h1.get (j := 0) rfl
      obtain ⟨b2, o2, rfl, _, _⟩ := h2.get (j := 0) rfl
      have hg : ∀ (l : List ByteArray) (b o c : Nat) (N : Nat), SlStr w (.slice (some ⟨b, o, none⟩) N c) l → ∀ j, j < l.length → w.cell? ⟨b, o + j, none⟩ = some (.string (l.getD j ByteArray.empty)) := by
        intro l b o c N h j hj
        have e : l[j]? = some (l.getD j ByteArray.empty) := by rw [List.getD_eq_getElem?_getD, List.getElem?_eq_getElem hj]; rfl
        obtain ⟨b', o', e2, _, h3⟩ := h.get e
        simp only [Option.some.injEq, Addr.mk.injEq] at e2
        obtain ⟨rfl, rfl, _⟩ := e2
        exact h3
      refine (Tryz.slices_Equal_string b1 o1 N1 c1 b2 o2 N1 c2 (x :: xs) (y :: ys) w (by omega) (by omega) hn1 hn1 (hg _ _ _ _ _ h1) (hg _ _ _ _ _ h2)).mono ?_
      rintro e w' ⟨rfl, q, rfl⟩
      refine ⟨?_, below_drewN (Below.refl _ _) q⟩
      rw [List.take_of_length_le (by omega), List.take_of_length_le (by omega)]
    | [], y :: ys, hN1, hN2 => simp at hN1 hN2; omega
    | x :: xs, [], hN1, hN2 => simp at hN1 hN2; omega
  · have hf : decide (l1 = l2) = false := by
      rw [decide_eq_false_iff_not]
      intro h
      exact hne (by rw [← hN1, ← hN2, h])
    rw [hf]
    clear hf h1 h2 hN1 hN2
    have hne2 : ¬ (N1 : Int) = (N2 : Int) := by omega
    go_enter Tryz.func84, Tryz.ntmps84
    go_wp2_with fail
    go_ret
    exact ⟨rfl, Below.refl _ _⟩
def EqMC : Prop := ∀ (x y : Tr.M) (x1 y1 x2 y2 : Value) (W : World), SlStr W x1 x.params → SlS W y1 x.body → SlStr W x2 y.params → SlS W y2 y.body →
  Calls Tryz.prog 86 #[methV x x1 y1, methV y x2 y2] W fun r w' => r = .returned (.bool (Sy.sameM x y)) ∧ Below W.heap.size W w'
set_option maxRecDepth 100000 in
set_option maxHeartbeats 4000000 in
theorem eqFuncM_of (hC : EqMC) (l1 l2 : List Tr.M) (p1 : Option Addr) (N1 c1 : Nat) (p2 : Option Addr) (N2 c2 : Nat) (w : World) (hN1 : l1.length = N1) (hN2 : l2.length = N2) (h1 : SlM w (.slice p1 N1 c1) l1) (h2 : SlM w (.slice p2 N2 c2) l2) :
    Calls Tryz.prog 85 #[.slice p1 N1 c1, .slice p2 N2 c2, .func (.func 86) #[] #[]] w fun r w' => r = .returned (.bool (Sy.sameMs l1 l2)) ∧ Below w.heap.size w w' := by
  have hn1 : N1 ≤ 9223372036854775807 := by
    have := h1.len
    rw [hN1] at this
    unfold maxLen at this
    exact this
  have hn2 : N2 ≤ 9223372036854775807 := by
    have := h2.len
    rw [hN2] at this
    unfold maxLen at this
    exact this
  have HC := Lib.hid hC
  have HN1 := Lib.hid hN1
  have HN2 := Lib.hid hN2
  have H1 := Lib.hid h1
  have H2 := Lib.hid h2
  clear hC hN1 hN2 h1 h2
  by_cases hne : N1 = N2
  · subst hne
    go_enter Tryz.func85, Tryz.ntmps85
    go_wp2_with fail
    go_loopg [7, 8, 9, 17] N1 (fun g s7 s8 s9 s17 wr => ∃ j : Nat, s17 = .int .i64 j ∧ j ≤ N1 ∧ g = N1 - j ∧ Hid (l1.take j = l2.take j) ∧ Hid (Below w.heap.size w wr))
    case atStart => exact ⟨0, rfl, Nat.zero_le _, rfl, rfl, Below.refl _ _⟩
    case round =>
      obtain ⟨j, rfl, hj, rfl, HT, HB⟩ := hrel
      by_cases hlt : j < N1
      · obtain ⟨x, hx⟩ : ∃ x, l1[j]? = some x := ⟨_, List.getElem?_eq_getElem (by rw [HN1.out]; exact hlt)⟩
        obtain ⟨y, hy⟩ : ∃ x, l2[j]? = some x := ⟨_, List.getElem?_eq_getElem (by rw [HN2.out]; exact hlt)⟩
        obtain ⟨b1, o1, vx1, vy1, rfl, _, hc1, _, hx1, hy1⟩ := H1.out.get hx
        obtain ⟨px1, kx1, hfx1⟩ : ∃ p c, vx1 = .slice p x.params.length c := by
          obtain ⟨p, c, e⟩ := hx1.form
          exact ⟨p, c, e⟩
        subst hfx1
        obtain ⟨Ax1, hAx1⟩ : ∃ q, x.params.length = q := ⟨_, rfl⟩
        rw [hAx1] at hx1 hc1
        clear hAx1
        obtain ⟨py1, ky1, hfy1⟩ : ∃ p c, vy1 = .slice p x.body.length c := by
          obtain ⟨p, c, e, _⟩ := hy1.form
          exact ⟨p, c, e⟩
        subst hfy1
        obtain ⟨Ay1, hAy1⟩ : ∃ q, x.body.length = q := ⟨_, rfl⟩
        rw [hAy1] at hy1 hc1
        clear hAy1
        obtain ⟨b2, o2, vx2, vy2, rfl, _, hc2, _, hx2, hy2⟩ := H2.out.get hy
        obtain ⟨px2, kx2, hfx2⟩ : ∃ p c, vx2 = .slice p y.params.length c := by
          obtain ⟨p, c, e⟩ := hx2.form
          exact ⟨p, c, e⟩
        subst hfx2
        obtain ⟨Ax2, hAx2⟩ : ∃ q, y.params.length = q := ⟨_, rfl⟩
        rw [hAx2] at hx2 hc2
        clear hAx2
        obtain ⟨py2, ky2, hfy2⟩ : ∃ p c, vy2 = .slice p y.body.length c := by
          obtain ⟨p, c, e, _⟩ := hy2.form
          exact ⟨p, c, e⟩
        subst hfy2
        obtain ⟨Ay2, hAy2⟩ : ∃ q, y.body.length = q := ⟨_, rfl⟩
        rw [hAy2] at hy2 hc2
        clear hAy2
        obtain ⟨x0, x1, x2⟩ := hc1
        have x0 := cell_keep' HB.out x0
        have x1 := cell_keep' HB.out x1
        have x2 := cell_keep' HB.out x2
        obtain ⟨y0, y1, y2⟩ := hc2
        have y0 := cell_keep' HB.out y0
        have y1 := cell_keep' HB.out y1
        have y2 := cell_keep' HB.out y2
        have hb4 := HB.out.alloc HB.out.size (.cells #[.string x.name, .slice px1 Ax1 kx1, .slice py1 Ay1 ky1] 64)
        have hb5 := hb4.alloc hb4.size (.cells #[.string y.name, .slice px2 Ax2 kx2, .slice py2 Ay2 ky2] 64)
        obtain ⟨w5, hw5⟩ : ∃ q, q = (wr.alloc (.cells #[.string x.name, .slice px1 Ax1 kx1, .slice py1 Ay1 ky1] 64)).alloc (.cells #[.string y.name, .slice px2 Ax2 kx2, .slice py2 Ay2 ky2] 64) := ⟨_, rfl⟩
        rw [← hw5] at hb5
        have hcall := HC.out x y _ _ _ _ w5 (hx1.keep hb5) (hy1.keep hb5) (hx2.keep hb5) (hy2.keep hb5)
        unfold methV at hcall
        have HW5 := Lib.hid hw5
        have HB5 := Lib.hid hb5
        have HX := Lib.hid hx
        have HY := Lib.hid hy
        have b3 : (j : Int) < (N1 : Int) := by omega
        have hl1 := cell_lt' x0
        have hl2 := cell_lt' y0
        obtain ⟨S, hSx⟩ : ∃ q, Sy.sameM x y = q := ⟨_, rfl⟩
        rw [hSx] at hcall
        have HSX := Lib.hid hSx
        have HCALL := Lib.hid hcall
        clear hx hy hx1 hy1 hx2 hy2 hb4 hb5 hw5 hcall hSx
        cases S
        · go_wp2_with fail
          rw [← HW5.out]
          refine HCALL.out.mono ?_
          rintro e' w6 ⟨rfl, hb6⟩
          have HB6 := Lib.hid (HB5.out.trans (hb6.mono HB5.out.size))
          clear hb6 HW5 x0 x1 x2 y0 y1 y2 hl1 hl2
          go_wp2_with fail
          go_ret
          refine ⟨?_, HB6.out⟩
          rw [show Sy.sameMs l1 l2 = false by
            rw [Bool.eq_false_iff]
            intro h
            rw [Sy.sameMs_iff] at h
            have h3 := HX.out
            rw [h, HY.out] at h3
            have h4 := HSX.out
            rw [Option.some.inj h3, (Sy.sameM_iff x x).2 rfl] at h4
            cases h4]
          rfl
        · go_wp2_with fail
          rw [← HW5.out]
          refine HCALL.out.mono ?_
          rintro e' w6 ⟨rfl, hb6⟩
          have HB6 := Lib.hid (HB5.out.trans (hb6.mono HB5.out.size))
          clear hb6 HW5 x0 x1 x2 y0 y1 y2 hl1 hl2
          go_wp2_with fail
          go_roundg (N1 - (j + 1))
          case measure => omega
          case rel => exact ⟨j + 1, by go_num, by omega, rfl, take_grow HT.out HX.out (by rw [HY.out, (Sy.sameM_iff x y).1 HSX.out]), HB6⟩
      · obtain rfl : j = N1 := by omega
        go_wp2_with fail
        go_ret
        refine ⟨?_, HB.out⟩
        rw [(Sy.sameMs_iff l1 l2).2 (by have h := HT.out; rw [List.take_of_length_le (by rw [HN1.out]; exact Nat.le_refl _), List.take_of_length_le (by rw [HN2.out]; exact Nat.le_refl _)] at h; exact h)]
        rfl
  · have hf : Sy.sameMs l1 l2 = false := by
      rw [Bool.eq_false_iff]
      intro h
      rw [Sy.sameMs_iff] at h
      exact hne (by rw [← HN1.out, ← HN2.out, h])
    rw [hf]
    clear hf
    have hne2 : ¬ (N1 : Int) = (N2 : Int) := by omega
    go_enter Tryz.func85, Tryz.ntmps85
    go_wp2_with fail
    go_ret
    exact ⟨rfl, Below.refl _ _⟩
end Go.Proofs.YtdckddkalgnlpaaGreatDoor
