/-
  Identities: the program's Minus of two lists, walked.
-/
import Derived.Test.YtlhkkniebaganaaGreatDoorIdSetH
namespace Go.Proofs.YtlhkkniebaganaaGreatDoor
open Go.RowKit

set_option maxRecDepth 100000 in
set_option maxHeartbeats 1000000 in
theorem indexFunc_empty (p : Option Addr) (c : Nat) (v : Value) (w : World) :
    Calls Tryz.prog 39 #[.slice p 0 c, v] w fun e w' => e = .returned (.int .i64 (-1)) ∧ w = w' := by
  go_enter Tryz.func39, Tryz.ntmps39
  go_wp2
  refine wp_loop_rounds 1 ?_
  rw [rounds_succ]
  go_wp2
  go_ret
  exact ⟨rfl, rfl⟩
set_option maxRecDepth 100000 in
set_option maxHeartbeats 1000000 in
theorem delete_empty (p : Option Addr) (c : Nat) (v : Value) (w : World) :
    Calls Tryz.prog 25 #[.slice p 0 c, v] w fun e w' => e = .returned (.slice p 0 c) ∧ w = w' := by
  go_enter Tryz.func25, Tryz.ntmps25
  go_wp2_with fail
  refine (indexFunc_empty _ _ _ _).mono ?_
  rintro e w1 ⟨rfl, rfl⟩
  go_wp2
  go_ret
  exact ⟨rfl, rfl⟩
theorem rowAt_of {w : World} {g : Nat} {l : List Id.I} (h : IdsAt w g 0 l) (hf : Fz w g l.length) : RowAt w g l.length (fun j => l.getD j default) := by
  intro j hj
  have he : l[j]? = some (l.getD j default) := by simp [List.getD, List.getElem?_eq_getElem hj]
  obtain ⟨h0, h1⟩ := h j _ he
  rw [Nat.zero_add] at h0 h1
  exact ⟨h0, h1, hf _ (by omega), hf _ (by omega)⟩
theorem listOf_self (l : List Id.I) : listOf (fun j => l.getD j default) l.length = l := by
  apply List.ext_getElem?
  intro j
  by_cases hj : j < l.length
  · rw [listOf_get _ hj]; simp [List.getD, List.getElem?_eq_getElem hj]
  · rw [List.getElem?_eq_none (by rw [listOf_len]; omega), List.getElem?_eq_none (by omega)]
/-- DeleteFunc of a row that the walk owns -/
theorem delete_v {B base : Nat} {v1 v2 : Value} {l m : List Id.I} {w : World} (hB : w.cell? ⟨B, 0, none⟩ = some v2) (h2 : IdsV w v2 m) (hv : m ≠ [] → ∀ b o k d, v2 = .slice (some ⟨b, o, none⟩) k d → b < base) (hBb : B < base) (h1 : Fresh w base v1 l) (hm : m.length ≤ 1000) (hl : l.length ≤ 1000) :
    Calls Tryz.prog 25 #[v1, .func (.func 26) #[] #[.pointer (some ⟨B, 0, none⟩)]] w fun e w' => ∃ v', e = .returned v' ∧ IdsV w' v' (l.filter fun x => !Id.hasB m x) ∧ Below base w w' := by
  rcases h1 with ⟨rfl, p, c, rfl⟩ | ⟨g, cap, rfl, hlc, hbg, hgw, hat, hfz⟩
  · refine (delete_empty p c _ w).mono ?_
    rintro e w' ⟨rfl, rfl⟩
    exact ⟨_, rfl, .inl ⟨rfl, p, c, rfl⟩, Below.refl _ _⟩
  · have := delete_any B g cap l.length (fun j => l.getD j default) v2 m w hB h2 (fun hne b o k d e hg => by have := hv hne b o k d e; omega) (by omega) hm hl hlc hgw (rowAt_of hat hfz)
    rw [listOf_self] at this
    refine this.mono ?_
    rintro e w' ⟨rfl, h3, h4⟩
    refine ⟨_, rfl, ?_, ⟨h4.os, h4.tape, h4.output, h4.size, fun k hk => ?_⟩⟩
    · by_cases hn : (l.filter fun x => !Id.hasB m x) = []
      · rw [hn]; exact .inl ⟨rfl, _, _, rfl⟩
      · exact .inr ⟨hn, g, 0, cap, rfl, Nat.lt_of_lt_of_le hgw h4.size, h3⟩
    · by_cases hkw : k < w.heap.size
      · exact h4.block k hkw (by intro e; cases e; omega)
      · exfalso; omega
set_option maxRecDepth 100000 in
set_option maxHeartbeats 1000000 in
theorem minus_v {v1 v2 : Value} {a b : List Id.I} {w : World} (h1 : IdsV w v1 a) (h2 : IdsV w v2 b) (ha : a.length ≤ 400) (hb : b.length ≤ 400) :
    Calls Tryz.prog 11 #[v1, v2] w fun e w' => ∃ v', e = .returned v' ∧ IdsV w' v' (Id.minusL a b) ∧ Below w.heap.size w w' := by
  have hbw := below_alloc w (.cells #[v2] 22)
  obtain ⟨p1, c1, rfl⟩ := h1.form
  obtain ⟨p2, c2, rfl⟩ := h2.form
  have hS := set_v _ a _ (by omega) (h1.keep hbw)
  have h2k := h2.keep hbw
  have h2lt : ∀ b' o k d, Value.slice p2 b.length c2 = .slice (some ⟨b', o, none⟩) k d → b ≠ [] → b' < w.heap.size := by
    intro b' o k d e hne
    rcases h2 with ⟨h0, _⟩ | ⟨_, b3, o3, c3, e3, hlt, _⟩
    · exact absurd h0 hne
    · rw [e3] at e; cases e; exact hlt
  have H2 := Lib.hid h2k
  have HS := Lib.hid hS
  have HB := Lib.hid hbw
  have HL := Lib.hid h2lt
  clear h1 h2 hS h2k hbw h2lt
  go_enter Tryz.func11, Tryz.ntmps11
  go_wp2_with fail
  refine HS.out.mono ?_
  rintro e w1 ⟨x1, rfl, hf, hb1⟩
  have hD := delete_v (m := b) (base := w.heap.size + 1) (v2 := .slice p2 b.length c2) (id_cell_keep hb1 (new_cell (h0 := w.heap) (cs := #[.slice p2 b.length c2]) rfl rfl 0 _ rfl)) (H2.out.keep hb1) (fun hne b' o k d e => by have := HL.out b' o k d e hne; omega) (by omega) (by simpa using hf) (by omega) (by have := Id.setL_len a; omega)
  rw [Id.minus_filter] at hD
  have HD := Lib.hid hD
  have HB1 := Lib.hid hb1
  clear hf hb1 hD
  go_wp2_with fail
  refine HD.out.mono ?_
  rintro e w2 ⟨x2, rfl, hv2, hb2⟩
  have HV2 := Lib.hid hv2
  clear hv2
  go_wp2_with fail
  go_ret
  exact ⟨_, rfl, HV2.out, (HB.out.trans (HB1.out.mono (by simp))).trans (hb2.mono (by omega))⟩
end Go.Proofs.YtlhkkniebaganaaGreatDoor
