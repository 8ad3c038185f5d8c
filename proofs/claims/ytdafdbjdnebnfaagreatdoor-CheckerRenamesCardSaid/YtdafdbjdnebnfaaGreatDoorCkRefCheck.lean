/-
  The reference's code and Check, walked.
-/
import Derived.Test.YtdafdbjdnebnfaaGreatDoorCkRefFaults
import Derived.Test.YtdafdbjdnebnfaaGreatDoorTrValR3
namespace Go.Proofs.YtdafdbjdnebnfaaGreatDoor
open Go.RowKit Go.Maps

set_option maxRecDepth 100000 in
set_option maxHeartbeats 2000000 in
theorem codeR_any (t : Nat) (ht : t < 13) (w : World) : Calls Tryz.prog 32 #[.int .i64 t] w fun e w' => e = .returned (.int .i64 (Ck.code t : Nat)) ∧ w' = w := by
  match t, ht with
  | 0, _ =>
    go_enter Tryz.func32, Tryz.ntmps32
    go_wp2_with fail
    go_ret
    exact ⟨rfl, rfl⟩
  | 1, _ =>
    go_enter Tryz.func32, Tryz.ntmps32
    go_wp2_with fail
    go_ret
    exact ⟨rfl, rfl⟩
  | 2, _ =>
    go_enter Tryz.func32, Tryz.ntmps32
    go_wp2_with fail
    go_ret
    exact ⟨rfl, rfl⟩
  | 3, _ =>
    go_enter Tryz.func32, Tryz.ntmps32
    go_wp2_with fail
    go_ret
    exact ⟨rfl, rfl⟩
  | 4, _ =>
    go_enter Tryz.func32, Tryz.ntmps32
    go_wp2_with fail
    go_ret
    exact ⟨rfl, rfl⟩
  | 5, _ =>
    go_enter Tryz.func32, Tryz.ntmps32
    go_wp2_with fail
    go_ret
    exact ⟨rfl, rfl⟩
  | 6, _ =>
    go_enter Tryz.func32, Tryz.ntmps32
    go_wp2_with fail
    go_ret
    exact ⟨rfl, rfl⟩
  | 7, _ =>
    go_enter Tryz.func32, Tryz.ntmps32
    go_wp2_with fail
    go_ret
    exact ⟨rfl, rfl⟩
  | 8, _ =>
    go_enter Tryz.func32, Tryz.ntmps32
    go_wp2_with fail
    go_ret
    exact ⟨rfl, rfl⟩
  | 9, _ =>
    go_enter Tryz.func32, Tryz.ntmps32
    go_wp2_with fail
    go_ret
    exact ⟨rfl, rfl⟩
  | 10, _ =>
    go_enter Tryz.func32, Tryz.ntmps32
    go_wp2_with fail
    go_ret
    exact ⟨rfl, rfl⟩
  | 11, _ =>
    go_enter Tryz.func32, Tryz.ntmps32
    go_wp2_with fail
    go_ret
    exact ⟨rfl, rfl⟩
  | 12, _ =>
    go_enter Tryz.func32, Tryz.ntmps32
    go_wp2_with fail
    go_ret
    exact ⟨rfl, rfl⟩
theorem codes_faults (cs : List Tr.C) (h : Tr.validP cs = true) : Ck.check cs = (Ck.faults cs).map fun f => Ck.code f.line := by
  unfold Ck.check; rw [if_pos h]
theorem faults_line (cs : List Tr.C) : ∀ f ∈ Ck.faults cs, f.line < 13 := by
  intro f hf
  have h1 := Ck.rows_lines cs
  have h2 : f.line ∈ (Ck.rows cs).map Prod.snd := by rw [h1]; exact List.mem_map.2 ⟨f, hf, rfl⟩
  obtain ⟨x, hx, e⟩ := List.mem_map.1 h2
  rw [← e]
  exact rowsC_lt cs cs 0 x hx

set_option maxRecDepth 100000 in
set_option maxHeartbeats 8000000 in
theorem checkR_any (v : Value) (cs : List Tr.C) (w : World) (h : SlC w v cs) (hsm : Ck.Small cs) :
    Calls Tryz.prog 13 #[.agg #[v]] w (CheckPost cs w) := by
  obtain ⟨i0, hi0, hz0, hz1, hz2⟩ := info_parts errInfo
  obtain ⟨pv, cpv, rfl⟩ := h.form
  have hbx := below_box w (.cells #[.slice pv cs.length cpv] 24)
  have hcall := validR_any _ cs _ (h.keep hbx)
  cases hv : Tr.validP cs
  · rw [hv] at hcall
    have hck : Hid (Ck.check cs = [1]) := by show _ = _; unfold Ck.check; rw [hv]; rfl
    have HC := Lib.hid hcall
    have HB := Lib.hid hbx
    obtain ⟨CN, hCN⟩ : ∃ N, cs.length = N := ⟨_, rfl⟩
    rw [hCN] at HC HB ⊢
    clear h hcall hv hbx hCN
    go_enter Tryz.func13, Tryz.ntmps13
    go_wp2_with fail
    refine HC.out.mono ?_
    rintro e w2 ⟨rfl, hb2⟩
    go_wp2_with fail
    go_ret
    have hB2 := HB.out.trans (hb2.mono HB.out.size)
    refine ⟨_, rfl, ?_, hB2.alloc hB2.size _⟩
    rw [hck.out]
    exact ⟨rfl, .inr ⟨w2.heap.size, 1, #[.int .i64 1], rfl, hB2.size, (MapKept.heap_alloc w2 _).1, Nat.le_refl _, by decide, rfl, rfl⟩⟩
  · rw [hv] at hcall
    have hck := Lib.hid (codes_faults cs hv)
    have HC := Lib.hid hcall
    have HB := Lib.hid hbx
    have KF : Hid (∀ W, Below w.heap.size w W → Calls Tryz.prog 31 #[.agg #[.slice pv cs.length cpv]] W (FaultsRPost cs W)) := fun W hb => faultsR_any _ cs W (h.keep hb) hv hsm
    have hrl := faultsC_len cs cs 0
    have hcnt := hsm.cnt
    have hlen : (Ck.faults cs).length ≤ 13000000 := by unfold Ck.faults; omega
    obtain ⟨R, hR⟩ : ∃ r, Ck.faults cs = r := ⟨_, rfl⟩
    have hlt13 : Hid (∀ x ∈ R, x.line < 13) := by rw [← hR]; exact faults_line cs
    rw [hR] at hlen hck
    have HR := Lib.hid hR
    have c0 := box_cell w #[.slice pv cs.length cpv] 24 0 _ rfl
    obtain ⟨CN, hCN⟩ : ∃ N, cs.length = N := ⟨_, rfl⟩
    rw [hCN] at HC HB KF c0 ⊢
    have C0 := Lib.hid c0
    clear h hcall hv hbx hCN hsm hrl hcnt hR c0
    go_enter Tryz.func13, Tryz.ntmps13
    go_wp2_with fail
    refine HC.out.mono ?_
    rintro e w2 ⟨rfl, hb2⟩
    have hB2 := Lib.hid (HB.out.trans (hb2.mono HB.out.size))
    have c0 := cell_keep' hb2 C0.out
    clear hb2
    go_wp2_with fail
    refine (KF.out _ hB2.out).mono ?_
    rintro e w3 ⟨fv, rfl, ho3, hb3⟩
    rw [HR.out] at ho3
    have hB3 := Lib.hid (hB2.out.trans (hb3.mono hB2.out.size))
    obtain ⟨pf, cf, rfl⟩ := own_form ho3
    have HO3 := Lib.hid ho3
    obtain ⟨N, hN⟩ : ∃ N, R.length = N := ⟨_, rfl⟩
    have HN := Lib.hid hN
    rw [hN] at hlen ⊢
    have HE3 := Lib.hid (own_empty w3 50 1)
    have HBE := Lib.hid (below_box w3 (.cells #[] 50))
    clear hb3 ho3 c0 hN KF
    go_wp2_with fail
    go_loopg [4, 5] N (fun g s4 s5 wr => ∃ k : Nat, s5 = .int .i64 k ∧ k ≤ N ∧ g = N - k ∧ Hid (wr.ownsRow w3.heap.size 50 1 s4 k (codeCells ((R.take k).map fun x => Ck.code x.line))) ∧ Hid (Below w3.heap.size w3 wr))
    case atStart => exact ⟨0, rfl, Nat.zero_le _, rfl, HE3, HBE⟩
    case round =>
      obtain ⟨k, rfl, hk, rfl, HO, HBR⟩ := hrel
      clear HE3 HBE
      by_cases hlt : k < N
      · obtain ⟨x, hx⟩ : ∃ x, R[k]? = some x := ⟨_, List.getElem?_eq_getElem (by rw [HN.out]; exact hlt)⟩
        obtain ⟨rfl, _⟩ | ⟨g3, cap3, e3, hg3, hnc, hnm, hq⟩ := own_cells fCells_len HO3.out
        · simp at hx
        injection e3 with e31 e32 e33
        subst e31
        subst e33
        have q0 := hq k x hx 0 _ rfl
        rw [Nat.add_zero] at q0
        have r0 := cell_keep' HBR.out q0
        have hx13 := hlt13.out x (List.mem_of_getElem? hx)
        have HX := Lib.hid hx
        have hsz := HBR.out.size
        have HCD := Lib.hid (codeR_any x.line hx13 wr)
        have b3k : (k : Int) < (N : Int) := by omega
        clear q0 e32 hx hq hnc hnm hg3
        go_wp2_with fail
        refine HCD.out.mono ?_
        rintro e w4 ⟨rfl, rfl⟩
        have HOA := Lib.hid (HO.out.alloc (.cells #[.int .i64 (Ck.code x.line : Nat)] 50))
        go_wp2_with (at_builtin; refine wpList_append_own _ rfl _ _ 27 rfl w3.heap.size 50 i0 (.int .i64 0) 1 8 Tryz.underlying27 hi0 hz0 hz1 hz2 rfl (by decide) _ _ _ rfl HOA.out ⟨w4.heap.size, 0, none⟩ 1 1 [.int .i64 (Ck.code x.line : Nat)] rfl rfl (news_cells (cs := #[.int .i64 (Ck.code x.line : Nat)]) rfl (by simp)) (by simp [Value.oneCell']) (by unfold maxLen; omega) (by omega) (by have := HBR.out.size; simp <;> omega) ?_; intro v7 w7 ho7 hg7 _)
        go_roundg (N - (k + 1))
        case measure => omega
        case rel =>
          refine ⟨k + 1, by go_num, by omega, rfl, Lib.hid ?_, Lib.hid ((HBR.out.alloc HBR.out.size _).grown hg7 (by have := HBR.out.size; simp <;> omega) fun q hq => (HO.out.lt q hq).1)⟩
          rw [take_get HX.out, List.map_append]
          unfold codeCells at ho7 ⊢
          rw [List.map_append]
          exact ho7
      · obtain rfl : k = N := by omega
        go_wp2_with fail
        go_ret
        refine ⟨_, rfl, ?_, hB3.out.trans (HBR.out.mono hB3.out.size)⟩
        rw [hck.out, List.length_map, HN.out]
        have h9 := HO.out
        rw [List.take_of_length_le (by rw [HN.out]; exact Nat.le_refl _)] at h9
        exact own_base h9 hB3.out.size
end Go.Proofs.YtdafdbjdnebnfaaGreatDoor
