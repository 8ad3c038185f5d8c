/-
  Identities: the reference's Union and Minus, walked.
-/
import Derived.Test.YtlhkkniebaganaaGreatDoorIdSetD
namespace Go.Proofs.YtlhkkniebaganaaGreatDoor
open Go.RowKit

theorem IdsV.kept {w w' : World} {v : Value} {l : List Id.I} {B : Nat} (h : IdsV w v l) (hb : Below B w w') (hlt : ∀ b o c n, v = .slice (some ⟨b, o, none⟩) n c → b < B) : IdsV w' v l := by
  rcases h with h | ⟨hne, b, o, c, e, h1, hat⟩
  · exact .inl h
  · exact .inr ⟨hne, b, o, c, e, Nat.lt_of_lt_of_le h1 hb.size, hat.keep hb (hlt b o c _ e)⟩
theorem IdsV.grown {w0 w w' : World} {v : Value} {l : List Id.I} {r : Option Nat} (h : IdsV w0 v l) (hb : Below w0.heap.size w0 w) (hg : w.grownBy w' r) (hr : ∀ q, r = some q → w0.heap.size ≤ q) : IdsV w' v l :=
  h.keep (hb.grown hg hb.size hr)

set_option maxRecDepth 100000 in
set_option maxHeartbeats 1000000 in
theorem unionRef_v {v1 v2 : Value} {a b : List Id.I} {w : World} (h1 : IdsV w v1 a) (h2 : IdsV w v2 b) (hl : a.length + b.length ≤ 900) :
    Calls Tryz.prog 10 #[v1, v2] w fun e w' => ∃ v', e = .returned v' ∧ PutV w' v' (Id.unionL a b) ∧ Below w.heap.size w w' := by
  have H1 := Lib.hid h1
  have H2 := Lib.hid h2
  have h1a := h1.keep (below_alloc w (.cells #[] 24))
  have H1A := Lib.hid h1a
  clear h1 h2 h1a
  go_enter Tryz.func10, Tryz.ntmps10
  go_wp2_with (first
    | (at_builtin; refine wpList_append_ids rfl _ _ rfl w.heap.size _ _ [] a rfl rfl (own_made w) H1A.out (by simp; omega) (by simp) ?_; intro x1 w1 hown1 hgrow1; have hb1 : Below w.heap.size w w1 := (below_alloc w _).grown hgrow1 (by simp) (fun q hq => by cases hq; exact Nat.le_refl _); have s1 := hb1.size; have H2A := Lib.hid (H2.out.keep hb1); have HO1 := Lib.hid hown1; clear hown1 hgrow1)
    | (at_builtin; refine wpList_append_ids rfl _ _ rfl w.heap.size _ _ ([] ++ a) b rfl rfl HO1.out H2A.out (by rw [List.nil_append]; omega) s1 ?_; intro x2 w2 hown2 hgrow2))
  have hb2 : Below w.heap.size w w2 := hb1.grown hgrow2 s1 (fun q hq => HO1.out.lt' q hq)
  have hS := setRef_v hown2.ids (by rw [List.nil_append, List.length_append]; omega)
  have HS := Lib.hid hS
  have HB2 := Lib.hid hb2
  clear hS hb2 hown2 hgrow2
  go_wp2_with fail
  refine HS.out.mono ?_
  rintro e w3 ⟨v3, rfl, hp3, hb3⟩
  go_wp2_with fail
  go_ret
  exact ⟨_, rfl, hp3, HB2.out.trans (hb3.mono HB2.out.size)⟩
theorem filter_take_yes {l : List Id.I} {k : Nat} {x : Id.I} {p : Id.I → Bool} (h : l[k]? = some x) (hp : p x = true) : (l.take (k + 1)).filter p = (l.take k).filter p ++ [x] := by
  have : l.take (k + 1) = l.take k ++ [x] := by rw [List.take_add_one, h]; rfl
  rw [this, List.filter_append]; simp [hp]
theorem filter_take_no {l : List Id.I} {k : Nat} {x : Id.I} {p : Id.I → Bool} (h : l[k]? = some x) (hp : p x = false) : (l.take (k + 1)).filter p = (l.take k).filter p := by
  have : l.take (k + 1) = l.take k ++ [x] := by rw [List.take_add_one, h]; rfl
  rw [this, List.filter_append]; simp [hp]

set_option maxRecDepth 100000 in
set_option maxHeartbeats 1000000 in
theorem minusRef_empty (p : Option Addr) (c : Nat) (v2 : Value) (w : World) :
    Calls Tryz.prog 12 #[.slice p 0 c, v2] w fun e w' => ∃ v', e = .returned v' ∧ PutV w' v' [] ∧ Below w.heap.size w w' := by
  go_enter Tryz.func12, Tryz.ntmps12
  go_wp2
  refine wp_loop_rounds 1 ?_
  rw [rounds_succ]
  go_wp2
  go_ret
  exact ⟨_, rfl, putV_made _ _, below_alloc _ _⟩
set_option maxRecDepth 100000 in
set_option maxHeartbeats 1000000 in
theorem minusRef_at (b o c : Nat) (l m : List Id.I) (v2 : Value) (w : World) (hl : l.length ≤ 900) (hm : m.length ≤ 900) (hlt : b < w.heap.size) (h : IdsAt w b o l) (h2 : IdsV w v2 m) :
    Calls Tryz.prog 12 #[.slice (some ⟨b, o, none⟩) l.length c, v2] w fun e w' => ∃ v', e = .returned v' ∧ PutV w' v' (Id.minusL l m) ∧ Below w.heap.size w w' := by
  obtain ⟨n, hn⟩ : ∃ n, l.length = n := ⟨_, rfl⟩
  have H := Lib.hid h
  have H2 := Lib.hid h2
  rw [hn] at hl ⊢
  have HN := Lib.hid hn
  clear h hn h2
  go_enter Tryz.func12, Tryz.ntmps12
  go_wp2
  go_loopw [5, 6] (fun v i wr => ∃ k : Nat, k ≤ n ∧ i = .int .i64 k ∧ PutV wr v (Id.setL ((l.take k).filter fun x => !Id.hasB m x)) ∧ Below w.heap.size w wr) (fun _ i _ => n - (intOf i).toNat)
  case atStart => exact ⟨0, Nat.zero_le _, rfl, putV_made _ _, below_alloc _ _⟩
  case round =>
    obtain ⟨k, hk, rfl, hput, hbel⟩ := hrel
    have HP := Lib.hid hput
    have HB := Lib.hid hbel
    by_cases hlt2 : k < n
    · obtain ⟨t, ht⟩ : ∃ t, l[k]? = some t := ⟨_, List.getElem?_eq_getElem (by rw [HN.out]; exact hlt2)⟩
      obtain ⟨y0, y1⟩ := (H.out.keep hbel hlt) k t ht
      have HT := Lib.hid ht
      have hH := hasRef_v t (H2.out.keep hbel) (by omega)
      unfold idV at hH
      cases hb : Id.hasB m t
      · rw [hb] at hH
        have HH := Lib.hid hH
        have HX := Lib.hid (show (fun x => !Id.hasB m x) t = true by simp [hb])
        clear hput hbel hH ht hb
        have hlen : (Id.setL ((l.take k).filter fun x => !Id.hasB m x)).length ≤ 1000 := by
          have h1 := Id.setL_len ((l.take k).filter fun x => !Id.hasB m x)
          have h2 := List.length_filter_le (fun x => !Id.hasB m x) (l.take k)
          rw [List.length_take] at h2
          omega
        have hP : ∀ w1, Below wr.heap.size wr w1 → _ := fun w1 hb1 => put_v t (HP.out.keep hb1) hlen
        unfold idV at hP
        rw [← Id.setL_snoc, ← filter_take_yes HT.out HX.out] at hP
        have HPP := Lib.hid hP
        clear hP hlen
        go_wp2_with (first
          | (go_at_call 14; refine HH.out.mono ?_; rintro e w1 ⟨rfl, hb1⟩; have z0 := id_cell_keep hb1 y0; have z1 := id_cell_keep hb1 y1; have HB1 := Lib.hid hb1; clear hb1)
          | (go_at_call 23; refine (HPP.out _ HB1.out).mono ?_; rintro e w' ⟨v', rfl, hv', hb'⟩))
        go_roundw
        case rel => exact ⟨k + 1, by omega, by go_num, hv', (HB.out.trans (HB1.out.mono HB.out.size)).trans (hb'.mono (by have := HB.out.size; have := HB1.out.size; omega))⟩
        case measure => simp [intOf]; omega
      · rw [hb] at hH
        have HH := Lib.hid hH
        have HX := Lib.hid (show (fun x => !Id.hasB m x) t = false by simp [hb])
        clear hput hbel hH ht hb
        go_wp2_with (go_at_call 14; refine HH.out.mono ?_; rintro e w1 ⟨rfl, hb1⟩)
        go_roundw
        case rel => exact ⟨k + 1, by omega, by go_num, by rw [filter_take_no HT.out HX.out]; exact HP.out.keep hb1, HB.out.trans (hb1.mono HB.out.size)⟩
        case measure => simp [intOf]; omega
    · obtain rfl : k = n := by omega
      clear hput hbel
      go_wp2
      go_ret
      refine ⟨_, rfl, ?_, HB.out⟩
      have := HP.out
      rw [← HN.out, List.take_length] at this
      exact this
theorem minusRef_v {v v2 : Value} {l m : List Id.I} {w : World} (h : IdsV w v l) (h2 : IdsV w v2 m) (hl : l.length ≤ 900) (hm : m.length ≤ 900) :
    Calls Tryz.prog 12 #[v, v2] w fun e w' => ∃ v', e = .returned v' ∧ PutV w' v' (Id.minusL l m) ∧ Below w.heap.size w w' := by
  rcases h with ⟨rfl, p, c, rfl⟩ | ⟨_, b, o, c, rfl, hlt, hat⟩
  · exact minusRef_empty p c v2 w
  · exact minusRef_at b o c l m v2 w hl hm hlt hat h2
end Go.Proofs.YtlhkkniebaganaaGreatDoor
