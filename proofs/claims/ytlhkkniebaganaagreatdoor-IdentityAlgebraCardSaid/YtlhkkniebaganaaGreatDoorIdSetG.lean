/-
  Identities: slices.Concat of two lists, and the program's Union, walked.
-/
import Derived.Test.YtlhkkniebaganaaGreatDoorIdSetF
namespace Go.Proofs.YtlhkkniebaganaaGreatDoor
open Go.RowKit

theorem IdsV.form {w : World} {v : Value} {l : List Id.I} (h : IdsV w v l) : ∃ p c, v = .slice p l.length c := by
  rcases h with ⟨rfl, p, c, rfl⟩ | ⟨_, b, o, c, rfl, _⟩
  · exact ⟨p, c, rfl⟩
  · exact ⟨_, c, rfl⟩

set_option maxRecDepth 100000 in
set_option maxHeartbeats 1000000 in
theorem concat_any (g : Nat) (v1 v2 : Value) (a b : List Id.I) (w : World) (h1 : IdsV w v1 a) (h2 : IdsV w v2 b) (ha : a.length ≤ 400) (hb : b.length ≤ 400)
    (hc1 : w.cell? ⟨g, 0, none⟩ = some v1) (hc2 : w.cell? ⟨g, 1, none⟩ = some v2) :
    Calls Tryz.prog 24 #[.slice (some ⟨g, 0, none⟩) 2 2] w fun e w' => ∃ v', e = .returned v' ∧ IdsV w' v' (a ++ b) ∧ Below w.heap.size w w' := by
  obtain ⟨p1, c1, rfl⟩ := h1.form
  obtain ⟨p2, c2, rfl⟩ := h2.form
  have H1 := Lib.hid h1
  have H2 := Lib.hid h2
  obtain ⟨n1, hn1⟩ : ∃ n, a.length = n := ⟨_, rfl⟩
  obtain ⟨n2, hn2⟩ : ∃ n, b.length = n := ⟨_, rfl⟩
  rw [hn1] at H1 hc1 ha
  rw [hn2] at H2 hc2 hb
  have HN1 := Lib.hid hn1
  have HN2 := Lib.hid hn2
  have hG := fun w0 => grow_any (n1 + n2) w0 (by omega)
  rw [Int.natCast_add] at hG
  have HG := Lib.hid hG
  have x0 : (g : Nat) = g + 0 * 1 := by omega
  clear h1 h2 hG hn1 hn2 x0
  go_enter Tryz.func24, Tryz.ntmps24
  go_wp2
  refine wp_loop_rounds 3 ?_
  have hs : ¬ ((n1 : Int) + (n2 : Int) < 0) := by omega
  have hs0 : ¬ ((n1 : Int) < 0) := by omega
  rw [rounds_succ]
  go_wp2
  rw [rounds_succ]
  go_wp2
  rw [rounds_succ]
  go_wp2_with fail
  refine (HG.out _).mono ?_
  rintro e w1 ⟨x1, rfl, hown1, hb1⟩
  have y0 := id_cell_keep hb1 hc1
  have y1 := id_cell_keep hb1 hc2
  have HV1 := Lib.hid (H1.out.keep hb1)
  have HO1 := Lib.hid hown1
  have HB1 := Lib.hid hb1
  have hlt : g < w.heap.size := cell_lt hc1
  have s1 := hb1.size
  clear hown1 hb1 HG
  go_wp2
  refine wp_loop_rounds 3 ?_
  rw [rounds_succ]
  go_wp2_with (at_builtin; refine wpList_append_ids rfl _ _ rfl w.heap.size _ _ [] a rfl rfl HO1.out HV1.out (by rw [HN1.out]; simp; omega) s1 ?_; intro x2 w2 hown2 hgrow2; have hb2 : Below w.heap.size w w2 := HB1.out.grown hgrow2 s1 (fun q hq => HO1.out.lt' q hq))
  have z1 := id_cell_keep hb2 hc2
  have HV2 := Lib.hid (H2.out.keep hb2)
  have HO2 := Lib.hid hown2
  have HB2 := Lib.hid hb2
  have s2 := hb2.size
  clear hown2 hb2 hgrow2 y0 y1
  rw [rounds_succ]
  go_wp2_with (at_builtin; refine wpList_append_ids rfl _ _ rfl w.heap.size _ _ ([] ++ a) b rfl rfl HO2.out HV2.out (by rw [List.nil_append, HN1.out, HN2.out]; omega) s2 ?_; intro x3 w3 hown3 hgrow3; have hb3 : Below w.heap.size w w3 := HB2.out.grown hgrow3 s2 (fun q hq => HO2.out.lt' q hq))
  have HO3 := Lib.hid hown3
  have HB3 := Lib.hid hb3
  clear hown3 hb3 hgrow3
  rw [rounds_succ]
  go_wp2_with fail
  go_ret
  exact ⟨_, rfl, HO3.out.ids, HB3.out⟩
set_option maxRecDepth 100000 in
set_option maxHeartbeats 1000000 in
theorem union_v {v1 v2 : Value} {a b : List Id.I} {w : World} (h1 : IdsV w v1 a) (h2 : IdsV w v2 b) (ha : a.length ≤ 400) (hb : b.length ≤ 400) :
    Calls Tryz.prog 9 #[v1, v2] w fun e w' => ∃ v', e = .returned v' ∧ IdsV w' v' (Id.unionL a b) ∧ Below w.heap.size w w' := by
  have hbw := below_alloc w (.cells #[v1, v2] 22)
  obtain ⟨p1, c1, rfl⟩ := h1.form
  obtain ⟨p2, c2, rfl⟩ := h2.form
  have HC := Lib.hid (concat_any w.heap.size _ _ a b _ (h1.keep hbw) (h2.keep hbw) ha hb (new_cell (h0 := w.heap) (cs := #[.slice p1 a.length c1, .slice p2 b.length c2]) rfl rfl 0 _ rfl) (new_cell (h0 := w.heap) (cs := #[.slice p1 a.length c1, .slice p2 b.length c2]) rfl rfl 1 _ rfl))
  have HB := Lib.hid hbw
  have hl : (a ++ b).length ≤ 1000000 := by rw [List.length_append]; omega
  have HL := Lib.hid hl
  clear h1 h2 hbw hl
  go_enter Tryz.func9, Tryz.ntmps9
  go_wp2_with fail
  refine HC.out.mono ?_
  rintro e w1 ⟨x1, rfl, hv1, hb1⟩
  have hS := set_v x1 (a ++ b) w1 HL.out hv1
  have HS := Lib.hid hS
  clear hS hv1
  go_wp2_with fail
  refine HS.out.mono ?_
  rintro e w2 ⟨x2, rfl, hf, hb2⟩
  have HF := Lib.hid hf
  clear hf
  go_wp2_with fail
  go_ret
  exact ⟨_, rfl, HF.out.ids, (HB.out.trans (hb1.mono (by simp))).trans (hb2.mono (by have := hb1.size; simp at this; omega))⟩
end Go.Proofs.YtlhkkniebaganaaGreatDoor
