/-
  Identities: slices.DeleteFunc and the program's Minus, walked.
-/
import Derived.Test.YtlhkkniebaganaaGreatDoorIdSetG
namespace Go.Proofs.YtlhkkniebaganaaGreatDoor
open Go.RowKit

set_option maxRecDepth 100000 in
set_option maxHeartbeats 1000000 in
theorem minus1_any (B : Nat) (v2 : Value) (m : List Id.I) (x : Id.I) (w : World) (hc : w.cell? ⟨B, 0, none⟩ = some v2) (h : IdsV w v2 m) (hm : m.length ≤ 1000) :
    Calls Tryz.prog 26 #[idV x, .pointer (some ⟨B, 0, none⟩)] w fun e w' => e = .returned (.bool (Id.hasB m x)) ∧ Below w.heap.size w w' := by
  obtain ⟨x1, x2⟩ := x
  have hbw := below_alloc w (.cells #[.int .i64 x1, .int .i64 x2] 24)
  obtain ⟨n0, n1, _, _⟩ := cell_new w x1 x2
  have c0 := id_cell_keep hbw hc
  have HI := Lib.hid (has_v (x1, x2) (h.keep hbw) (by omega))
  have HB := Lib.hid hbw
  unfold idV
  clear h hbw
  go_enter Tryz.func26, Tryz.ntmps26
  go_wp2_with fail
  refine HI.out.mono ?_
  rintro e w' ⟨rfl, hb⟩
  go_wp2_with fail
  go_ret
  exact ⟨rfl, HB.out.trans (hb.mono (by simp))⟩
theorem indexFunc_any (B g c : Nat) (v2 : Value) (m l : List Id.I) (w : World) (hc : w.cell? ⟨B, 0, none⟩ = some v2) (h : IdsV w v2 m) (hm : m.length ≤ 1000) (hl : l.length ≤ 1000) (hg : g < w.heap.size) (hat : IdsAt w g 0 l) :
    Calls Tryz.prog 39 #[.slice (some ⟨g, 0, none⟩) l.length c, .func (.func 26) #[] #[.pointer (some ⟨B, 0, none⟩)]] w fun e w' => e = .returned (.int .i64 (Lib.idxBy (fun _ y => Id.hasB m y) (l.take l.length) default)) ∧ Below w.heap.size w w' := by
  have eg : ∀ args w, (callFunc 26 args).run Tryz.prog w = .ok (.enter 26 args) w := Go.Proofs.enters_of Tryz.func26 (by kernel_rfl) rfl
  exact Go.Proofs.AnyQ.slices_IndexFunc Tryz.indexFuncId 2 Tryz.isAgg24 Tryz.sizeOf24 idCells (fun _ => rfl) (fun y => Id.hasB m y) 26 #[.pointer (some ⟨B, 0, none⟩)] eg g 0 l.length c l w
    (fun W x hb => (minus1_any B v2 m x W ((hb.cell (cell_lt hc)).trans hc) (h.keep hb) hm).mono fun _ _ ⟨h1, h2⟩ => ⟨h1, hb.trans (h2.mono hb.size)⟩) (Nat.le_refl _) (by omega) hg
    (fun j hj i v hv => by
      rw [getElem!_pos l j hj] at hv
      have hgt := idsCells_get l j l[j] (List.getElem?_eq_getElem hj)
      have := hat j l[j] (List.getElem?_eq_getElem hj)
      rw [Nat.zero_add] at this ⊢
      match i, hv with
      | 0, hv => cases hv; exact this.1
      | 1, hv => cases hv; exact this.2
      | i + 2, hv => simp [idCells] at hv)
theorem idxBy_from (q : Id.I → Bool) (x : Id.I) : ∀ (l : List Id.I) (i : Nat), (Lib.idxByFrom (fun _ y => q y) x l i = -1 ∧ ∀ (j : Nat) (a : Id.I), l[j]? = some a → q a = false) ∨ ∃ (k : Nat) (a : Id.I), l[k]? = some a ∧ Lib.idxByFrom (fun _ y => q y) x l i = ((i + k : Nat) : Int) ∧ q a = true ∧ ∀ (j : Nat) (b : Id.I), j < k → l[j]? = some b → q b = false
  | [], _ => .inl ⟨rfl, fun j a h => by simp at h⟩
  | y :: r, i => by
    cases h : q y with
    | true => exact .inr ⟨0, y, rfl, by simp [Lib.idxByFrom, h], h, fun j b hj => absurd hj (Nat.not_lt_zero _)⟩
    | false =>
      rcases idxBy_from q x r (i + 1) with ⟨h1, h2⟩ | ⟨k, a, h1, h2, h3, h4⟩
      · refine .inl ⟨by simp [Lib.idxByFrom, h, h1], fun j a hj => ?_⟩
        cases j with
        | zero => cases hj; exact h
        | succ j => exact h2 j a hj
      · refine .inr ⟨k + 1, a, h1, by simp only [Lib.idxByFrom, h, h2]; simp; omega, h3, fun j b hj hb => ?_⟩
        cases j with
        | zero => cases hb; exact h
        | succ j => exact h4 j b (by omega) hb
/-- j elements have been read, k kept -/
structure KeptF (f : Nat → Id.I) (q : Id.I → Bool) (j k : Nat) (F : Nat → Id.I) : Prop where
  le : k < j
  high : ∀ i, j ≤ i → F i = f i
  low : listOf F k = (listOf f j).filter fun x => !q x
theorem KeptF.keep {f F : Nat → Id.I} {q : Id.I → Bool} {j k : Nat} (h : KeptF f q j k F) (e : q (f j) = false) : KeptF f q (j + 1) (k + 1) (upd F k (f j)) := by
  have hle := h.le
  refine ⟨by omega, fun i hi => ?_, ?_⟩
  · unfold upd; rw [if_neg (by omega)]; exact h.high i (by omega)
  · rw [listOf_succ, listOf_succ f j, List.filter_append, ← h.low, listOf_congr (f := upd F k (f j)) (g := F) (fun i hi => by unfold upd; rw [if_neg (by omega)])]
    simp [e, upd]
theorem KeptF.skip {f F : Nat → Id.I} {q : Id.I → Bool} {j k : Nat} (h : KeptF f q j k F) (e : q (f j) = true) : KeptF f q (j + 1) k F := by
  have hle := h.le
  refine ⟨by omega, fun i hi => h.high i (by omega), ?_⟩
  rw [listOf_succ, List.filter_append, ← h.low]; simp [e]
theorem KeptF.start {f : Nat → Id.I} {q : Id.I → Bool} {k : Nat} (h : ∀ j, j < k → q (f j) = false) (e : q (f k) = true) : KeptF f q (k + 1) k f := by
  refine ⟨by omega, fun i hi => rfl, ?_⟩
  rw [listOf_succ, List.filter_append, List.filter_eq_self.2]
  · simp [e]
  · intro a ha
    unfold listOf at ha
    obtain ⟨j, hj, rfl⟩ := List.mem_map.1 ha
    simp [h j (List.mem_range.1 hj)]
theorem RowAt.keep {w w' : World} {g n : Nat} {f : Nat → Id.I} (h : RowAt w g n f) (hb : Below w.heap.size w w') (hg : g < w.heap.size) : RowAt w' g n f := by
  intro j hj
  obtain ⟨h0, h1, h2, h3⟩ := h j hj
  have hbl := hb.block g hg
  exact ⟨id_cell_keep hb h0, id_cell_keep hb h1, (World.frozen?_of_block (a := ⟨g, j * 2, none⟩) hbl).trans h2, (World.frozen?_of_block (a := ⟨g, j * 2 + 1, none⟩) hbl).trans h3⟩
theorem IdsV.byGrown {w w' : World} {v : Value} {l : List Id.I} {g : Nat} (h : IdsV w v l) (hg : w.grownBy w' (some g)) (hne : l ≠ [] → ∀ b o k d, v = .slice (some ⟨b, o, none⟩) k d → b ≠ g) : IdsV w' v l := by
  rcases h with h | ⟨h0, b, o, c, e, hlt, hat⟩
  · exact .inl h
  · exact .inr ⟨h0, b, o, c, e, Nat.lt_of_lt_of_le hlt hg.size, ids_keep_grown hat hg (hne h0 b o _ c e)⟩
set_option maxRecDepth 100000 in
set_option maxHeartbeats 2000000 in
theorem delete_any (B g c n : Nat) (f : Nat → Id.I) (v2 : Value) (m : List Id.I) (w : World) (hB : w.cell? ⟨B, 0, none⟩ = some v2) (h : IdsV w v2 m) (hv : m ≠ [] → ∀ b o k d, v2 = .slice (some ⟨b, o, none⟩) k d → b ≠ g) (hBg : B ≠ g) (hm : m.length ≤ 1000) (hn : n ≤ 1000) (hc : n ≤ c) (hg : g < w.heap.size) (hrow : RowAt w g n f) :
    Calls Tryz.prog 25 #[.slice (some ⟨g, 0, none⟩) n c, .func (.func 26) #[] #[.pointer (some ⟨B, 0, none⟩)]] w fun e w' => e = .returned (.slice (some ⟨g, 0, none⟩) ((listOf f n).filter fun x => !Id.hasB m x).length c) ∧ IdsAt w' g 0 ((listOf f n).filter fun x => !Id.hasB m x) ∧ w.grownBy w' (some g) := by
  have hat : IdsAt w g 0 (listOf f n) := by
    have := hrow.cleared (k := n) (Nat.le_refl _) []
    exact this
  have hI := indexFunc_any B g c v2 m (listOf f n) w hB h hm (by rw [listOf_len]; exact hn) hg hat
  rw [listOf_len, show (listOf f n).take n = listOf f n from List.take_of_length_le (by rw [listOf_len]; exact Nat.le_refl _)] at hI
  unfold Lib.idxBy at hI
  have HR := Lib.hid hrow
  have H := Lib.hid h
  rcases idxBy_from (Id.hasB m) default (listOf f n) 0 with ⟨h1, h2⟩ | ⟨k0, a, h1, h2, h3, h4⟩
  · rw [h1] at hI
    have HI := Lib.hid hI
    have hfil : (listOf f n).filter (fun x => !Id.hasB m x) = listOf f n := List.filter_eq_self.2 fun a ha => by
      obtain ⟨j, hj, e⟩ := List.mem_iff_getElem.1 ha
      rw [h2 j a (by rw [List.getElem?_eq_getElem hj, e])]; rfl
    have HF := Lib.hid hfil
    clear hI hfil h1 h2 hrow h hat
    go_enter Tryz.func25, Tryz.ntmps25
    go_wp2_with fail
    refine HI.out.mono ?_
    rintro e w1 ⟨rfl, hb1⟩
    go_wp2_with fail
    go_ret
    rw [HF.out, listOf_len]
    exact ⟨rfl, ((HR.out.keep hb1 hg).cleared (k := n) (Nat.le_refl _) []), grown_below hb1⟩
  · have hk0 : k0 < n := by
      have := (List.getElem?_eq_some_iff.1 h1).1
      rwa [listOf_len] at this
    have hfa : f k0 = a := by rw [listOf_get f hk0] at h1; exact Option.some.inj h1
    have hst : KeptF f (Id.hasB m) (k0 + 1) k0 f := KeptF.start (fun j hj => h4 j (f j) hj (listOf_get f (by omega))) (by rw [hfa]; exact h3)
    rw [h2, Nat.zero_add] at hI
    have HI := Lib.hid hI
    have HST := Lib.hid hst
    have hne1 : ((k0 : Int) == -1) = false := beq_eq_false_iff_ne.2 (by omega)
    clear hI hst h1 h2 h3 h4 hrow h hat hfa
    go_enter Tryz.func25, Tryz.ntmps25
    go_wp2_with fail
    refine HI.out.mono ?_
    rintro e w1 ⟨rfl, hb1⟩
    have HB1 := Lib.hid hb1
    clear hb1
    go_wp2_with fail
    go_loopw [5, 6, 7] (fun s5 s6 _ wr => ∃ (k j : Nat) (F : Nat → Id.I), s5 = .int .i64 k ∧ s6 = .int .i64 j ∧ j ≤ n ∧ KeptF f (Id.hasB m) j k F ∧ RowAt wr g n F ∧ w.grownBy wr (some g)) (fun _ s6 _ _ => n - (intOf s6).toNat)
    case atStart => exact ⟨k0, k0 + 1, f, rfl, by go_num, by omega, HST.out, HR.out.keep HB1.out hg, grown_below HB1.out⟩
    case round =>
      obtain ⟨k, j, F, rfl, rfl, hjn, hkept, hrowF, hgr⟩ := hrel
      have hkj := hkept.le
      have HK := Lib.hid hkept
      have HRF := Lib.hid hrowF
      have HG := Lib.hid hgr
      by_cases hlt : j < n
      · obtain ⟨x0, x1, _, _⟩ := hrowF j hlt
        rw [hkept.high j (Nat.le_refl _)] at x0 x1
        have hgs : g < wr.heap.size := Nat.lt_of_lt_of_le hg hgr.size
        have hcall : ∀ W', Below wr.heap.size wr W' → _ := fun W' hb => minus1_any B v2 m (f j) W' ((hb.cell (p := ⟨B, 0, none⟩) (Nat.lt_of_lt_of_le (cell_lt hB) hgr.size)).trans (hgr.cell hB (by simpa using hBg))) ((H.out.byGrown hgr hv).keep hb) hm
        unfold idV at hcall
        cases hq : Id.hasB m (f j)
        · have hst := hkept.keep hq
          rw [hq] at hcall
          have HST2 := Lib.hid hst
          have HC := Lib.hid hcall
          obtain ⟨u, hu⟩ : ∃ u, f j = u := ⟨_, rfl⟩
          rw [hu] at x0 x1 HST2 HC
          clear hkept hrowF hgr hst hcall hq hu
          have hbx := below_alloc wr (.cells #[.int .i64 u.1, .int .i64 u.2] 24)
          obtain ⟨b0, b1, _, _⟩ := cell_new wr u.1 u.2
          have HBX := Lib.hid hbx
          clear hbx
          go_wp2_with fail
          refine (HC.out _ HBX.out).mono ?_
          rintro e w2 ⟨rfl, hb2⟩
          have HB2 := Lib.hid (HBX.out.trans (hb2.mono (by simp)))
          have c0 := id_cell_keep hb2 b0
          have c1 := id_cell_keep hb2 b1
          obtain ⟨z0, z1, z2, z3⟩ := (HRF.out.keep HB2.out hgs) k (by omega)
          have k1 : (k : Int) < (n : Int) := by omega
          clear b0 b1 hb2
          go_wp2_with fail
          go_roundw
          case rel => exact ⟨k + 1, j + 1, upd F k u, by go_num, by go_num, by omega, HST2.out, (HRF.out.keep HB2.out hgs).set _, grown_set2 (grown_trans HG.out (grown_below HB2.out)) _ _ _ _⟩
          case measure => simp [intOf]; omega
        · have hst := hkept.skip hq
          rw [hq] at hcall
          have HST2 := Lib.hid hst
          have HC := Lib.hid hcall
          obtain ⟨u, hu⟩ : ∃ u, f j = u := ⟨_, rfl⟩
          rw [hu] at x0 x1 HC
          clear hkept hrowF hgr hst hcall hq hu
          have hbx := below_alloc wr (.cells #[.int .i64 u.1, .int .i64 u.2] 24)
          have HBX := Lib.hid hbx
          clear hbx
          go_wp2_with fail
          refine (HC.out _ HBX.out).mono ?_
          rintro e w2 ⟨rfl, hb2⟩
          have HB2 := Lib.hid (HBX.out.trans (hb2.mono (by simp)))
          clear hb2
          go_wp2_with fail
          go_roundw
          case rel => exact ⟨k, j + 1, F, rfl, by go_num, by omega, HST2.out, HRF.out.keep HB2.out hgs, grown_trans HG.out (grown_below HB2.out)⟩
          case measure => simp [intOf]; omega
      · obtain rfl : j = n := by omega
        clear hkept hrowF hgr
        have kc : k ≤ c := by omega
        have hcl := fun ty => HRF.out.clear hkj c ty
        go_wp2
        go_ret
        have hl := HK.out.low
        rw [← hl, listOf_len]
        exact ⟨rfl, HRF.out.cleared (by omega) _, grown_trans HG.out (grown_setCells g _ _ _)⟩
end Go.Proofs.YtlhkkniebaganaaGreatDoor
