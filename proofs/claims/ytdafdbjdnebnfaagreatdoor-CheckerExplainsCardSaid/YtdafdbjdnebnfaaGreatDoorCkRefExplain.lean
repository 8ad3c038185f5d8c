/-
  The reference's text and Explain, walked.
-/
import Derived.Test.YtdafdbjdnebnfaaGreatDoorCkRefCheck
namespace Go.Proofs.YtdafdbjdnebnfaaGreatDoor
open Go.RowKit Go.Maps

set_option maxRecDepth 100000 in
set_option maxHeartbeats 4000000 in
theorem textR_any (t : Nat) (ht : t < 13) (w : World) : Calls Tryz.prog 34 #[.int .i64 t] w fun e w' => e = .returned (.string (textOf t)) ∧ Below w.heap.size w w' := by
  match t, ht with
  | 0, _ =>
    go_enter Tryz.func34, Tryz.ntmps34
    go_wp2_with fail
    go_ret
    exact ⟨rfl, below_box _ _⟩
  | 1, _ =>
    go_enter Tryz.func34, Tryz.ntmps34
    go_wp2_with fail
    go_ret
    exact ⟨rfl, below_box _ _⟩
  | 2, _ =>
    go_enter Tryz.func34, Tryz.ntmps34
    go_wp2_with fail
    go_ret
    exact ⟨rfl, below_box _ _⟩
  | 3, _ =>
    go_enter Tryz.func34, Tryz.ntmps34
    go_wp2_with fail
    go_ret
    exact ⟨rfl, below_box _ _⟩
  | 4, _ =>
    go_enter Tryz.func34, Tryz.ntmps34
    go_wp2_with fail
    go_ret
    exact ⟨rfl, below_box _ _⟩
  | 5, _ =>
    go_enter Tryz.func34, Tryz.ntmps34
    go_wp2_with fail
    go_ret
    exact ⟨rfl, below_box _ _⟩
  | 6, _ =>
    go_enter Tryz.func34, Tryz.ntmps34
    go_wp2_with fail
    go_ret
    exact ⟨rfl, below_box _ _⟩
  | 7, _ =>
    go_enter Tryz.func34, Tryz.ntmps34
    go_wp2_with fail
    go_ret
    exact ⟨rfl, below_box _ _⟩
  | 8, _ =>
    go_enter Tryz.func34, Tryz.ntmps34
    go_wp2_with fail
    go_ret
    exact ⟨rfl, below_box _ _⟩
  | 9, _ =>
    go_enter Tryz.func34, Tryz.ntmps34
    go_wp2_with fail
    go_ret
    exact ⟨rfl, below_box _ _⟩
  | 10, _ =>
    go_enter Tryz.func34, Tryz.ntmps34
    go_wp2_with fail
    go_ret
    exact ⟨rfl, below_box _ _⟩
  | 11, _ =>
    go_enter Tryz.func34, Tryz.ntmps34
    go_wp2_with fail
    go_ret
    exact ⟨rfl, below_box _ _⟩
  | 12, _ =>
    go_enter Tryz.func34, Tryz.ntmps34
    go_wp2_with fail
    go_ret
    exact ⟨rfl, below_box _ _⟩
def colon : ByteArray := ⟨#[58, 32]⟩
/-- a fault's line -/
def lineF (cs : List Tr.C) (f : Ck.F) : ByteArray :=
  match cs[f.cls]? with
  | none => ⟨#[]⟩
  | some c =>
    match f.mth with
    | none => lineOf (Ck.clsText c, f.line)
    | some k =>
      match c.methods[k]? with
      | none => ⟨#[]⟩
      | some m => lineOf (Ck.mthText c m, f.line)
theorem faultsM_text (cs : List Tr.C) (i : Nat) (c : Tr.C) (hi : cs[i]? = some c) : ∀ (l : List Tr.M) (k : Nat), (∀ j m, l[j]? = some m → c.methods[k + j]? = some m) → (Ck.faultsM cs i c l k).map (lineF cs) = (Ck.rowsM cs c l k).map lineOf
  | [], k, _ => rfl
  | m :: r, k, h => by
    have h0 := h 0 m rfl
    rw [Nat.add_zero] at h0
    rw [Ck.faultsM, Ck.rowsM, List.map_append, List.map_append, faultsM_text cs i c hi r (k + 1) (fun j m hj => by have := h (j + 1) m (by simpa using hj); rw [show k + 1 + j = k + (j + 1) by omega]; exact this), List.map_map, List.map_map]
    congr 1
    apply List.map_congr_left
    intro t _
    show lineF cs ⟨t, i, some k⟩ = lineOf (Ck.mthText c m, t)
    unfold lineF
    simp only [hi, h0]
theorem faultsC_text (cs : List Tr.C) : ∀ (l : List Tr.C) (i : Nat), (∀ j c, l[j]? = some c → cs[i + j]? = some c) → (Ck.faultsC cs l i).map (lineF cs) = (Ck.rowsC cs l i).map lineOf
  | [], i, _ => rfl
  | c :: r, i, h => by
    have h0 := h 0 c rfl
    rw [Nat.add_zero] at h0
    rw [Ck.faultsC, Ck.rowsC, List.map_append, List.map_append, List.map_append, List.map_append, faultsM_text cs i c h0 c.methods 0 (fun j m hj => by rw [Nat.zero_add]; exact hj), faultsC_text cs r (i + 1) (fun j m hj => by have := h (j + 1) m (by simpa using hj); rw [show i + 1 + j = i + (j + 1) by omega]; exact this), List.map_map, List.map_map]
    congr 2
    apply List.map_congr_left
    intro t _
    show lineF cs ⟨t, i, none⟩ = lineOf (Ck.clsText c, t)
    unfold lineF
    simp only [h0]
theorem faults_text (cs : List Tr.C) (h : Tr.validP cs = true) : explainL cs = (Ck.faults cs).map (lineF cs) := by
  rw [explain_rows cs h]
  exact (faultsC_text cs cs 0 (fun j c hj => by rw [Nat.zero_add]; exact hj)).symm
/-- where a fault lies -/
def FIn (cs : List Tr.C) (f : Ck.F) : Prop := ∃ c, cs[f.cls]? = some c ∧ ∀ k, f.mth = some k → ∃ m, c.methods[k]? = some m
theorem faultsM_in (cs : List Tr.C) (i : Nat) (c : Tr.C) (hi : cs[i]? = some c) : ∀ (l : List Tr.M) (k : Nat), (∀ j m, l[j]? = some m → c.methods[k + j]? = some m) → ∀ f ∈ Ck.faultsM cs i c l k, FIn cs f
  | [], k, _ => by intro f hf; cases hf
  | m :: r, k, h => by
    intro f hf
    have h0 := h 0 m rfl
    rw [Nat.add_zero] at h0
    rw [Ck.faultsM, List.mem_append] at hf
    rcases hf with hf | hf
    · obtain ⟨t, _, rfl⟩ := List.mem_map.1 hf
      exact ⟨c, hi, fun k' e => by cases e; exact ⟨m, h0⟩⟩
    · exact faultsM_in cs i c hi r (k + 1) (fun j m hj => by have := h (j + 1) m (by simpa using hj); rw [show k + 1 + j = k + (j + 1) by omega]; exact this) f hf
theorem faultsC_in (cs : List Tr.C) : ∀ (l : List Tr.C) (i : Nat), (∀ j c, l[j]? = some c → cs[i + j]? = some c) → ∀ f ∈ Ck.faultsC cs l i, FIn cs f
  | [], i, _ => by intro f hf; cases hf
  | c :: r, i, h => by
    intro f hf
    have h0 := h 0 c rfl
    rw [Nat.add_zero] at h0
    rw [Ck.faultsC, List.mem_append, List.mem_append] at hf
    rcases hf with (hf | hf) | hf
    · obtain ⟨t, _, rfl⟩ := List.mem_map.1 hf
      exact ⟨c, h0, fun k' e => by cases e⟩
    · exact faultsM_in cs i c h0 c.methods 0 (fun j m hj => by rw [Nat.zero_add]; exact hj) f hf
    · exact faultsC_in cs r (i + 1) (fun j m hj => by have := h (j + 1) m (by simpa using hj); rw [show i + 1 + j = i + (j + 1) by omega]; exact this) f hf
theorem faults_in (cs : List Tr.C) : ∀ f ∈ Ck.faults cs, FIn cs f := faultsC_in cs cs 0 (fun j c hj => by rw [Nat.zero_add]; exact hj)

set_option maxRecDepth 100000 in
set_option maxHeartbeats 20000000 in
theorem explainR_any (v : Value) (cs : List Tr.C) (w : World) (h : SlC w v cs) (hsm : Ck.Small cs) :
    Calls Tryz.prog 17 #[.agg #[v]] w (ExplainPost cs w) := by
  obtain ⟨i0, hi0, hz0, hz1, hz2⟩ := info_parts strInfo2
  obtain ⟨pv, cpv, rfl⟩ := h.form
  have hbx := below_box w (.cells #[.slice pv cs.length cpv] 24)
  have hcall := validR_any _ cs _ (h.keep hbx)
  cases hv : Tr.validP cs
  · rw [hv] at hcall
    have hck : Hid (explainL cs = [⟨#[105, 110, 118, 97, 108, 105, 100, 32, 112, 114, 111, 103, 114, 97, 109]⟩]) := by show _ = _; unfold explainL; rw [hv]; rfl
    have HC := Lib.hid hcall
    have HB := Lib.hid hbx
    obtain ⟨CN, hCN⟩ : ∃ N, cs.length = N := ⟨_, rfl⟩
    rw [hCN] at HC HB ⊢
    clear h hcall hv hbx hCN
    go_enter Tryz.func17, Tryz.ntmps17
    go_wp2_with fail
    refine HC.out.mono ?_
    rintro e w2 ⟨rfl, hb2⟩
    go_wp2_with fail
    go_ret
    have hB2 := HB.out.trans (hb2.mono HB.out.size)
    refine ⟨_, rfl, ?_, hB2.alloc hB2.size _⟩
    rw [hck.out]
    exact ⟨rfl, .inr ⟨w2.heap.size, 1, #[.string ⟨#[105, 110, 118, 97, 108, 105, 100, 32, 112, 114, 111, 103, 114, 97, 109]⟩], rfl, hB2.size, (MapKept.heap_alloc w2 _).1, Nat.le_refl _, by decide, rfl, rfl⟩⟩
  · rw [hv] at hcall
    have hck := Lib.hid (faults_text cs hv)
    have HC := Lib.hid hcall
    have HB := Lib.hid hbx
    have KF : Hid (∀ W, Below w.heap.size w W → Calls Tryz.prog 31 #[.agg #[.slice pv cs.length cpv]] W (FaultsRPost cs W)) := fun W hb => faultsR_any _ cs W (h.keep hb) hv hsm
    have hrl := faultsC_len cs cs 0
    have hcnt := hsm.cnt
    have hlen : (Ck.faults cs).length ≤ 13000000 := by unfold Ck.faults; omega
    obtain ⟨R, hR⟩ : ∃ r, Ck.faults cs = r := ⟨_, rfl⟩
    have hlt13 : Hid (∀ x ∈ R, x.line < 13) := by rw [← hR]; exact faults_line cs
    have hfin : Hid (∀ x ∈ R, FIn cs x) := by rw [← hR]; exact faults_in cs
    have HSM := Lib.hid hsm
    rw [hR] at hlen hck
    have HR := Lib.hid hR
    have c0 := box_cell w #[.slice pv cs.length cpv] 24 0 _ rfl
    have HH := Lib.hid h
    have hcl := h.len
    unfold maxLen at hcl
    obtain ⟨CN, hCN⟩ : ∃ N, cs.length = N := ⟨_, rfl⟩
    rw [hCN] at HC HB KF c0 HH hcl ⊢
    have HCN := Lib.hid hCN
    have C0 := Lib.hid c0
    clear h hcall hv hbx hCN hsm hrl hcnt hR c0
    go_enter Tryz.func17, Tryz.ntmps17
    go_wp2_with fail
    refine HC.out.mono ?_
    rintro e w2 ⟨rfl, hb2⟩
    have hB2 := Lib.hid (HB.out.trans (hb2.mono HB.out.size))
    have c0 := cell_keep' hb2 C0.out
    have C2 := Lib.hid c0
    clear hb2
    go_wp2_with fail
    refine (KF.out _ hB2.out).mono ?_
    rintro e w3 ⟨fv, rfl, ho3, hb3⟩
    rw [HR.out] at ho3
    have hB3 := Lib.hid (hB2.out.trans (hb3.mono hB2.out.size))
    obtain ⟨pf, cf, rfl⟩ := own_form ho3
    have HO3 := Lib.hid ho3
    have C3 := Lib.hid (cell_keep' hb3 C2.out)
    obtain ⟨N, hN⟩ : ∃ N, R.length = N := ⟨_, rfl⟩
    have HN := Lib.hid hN
    rw [hN] at hlen ⊢
    have HE3 := Lib.hid (own_empty w3 9 1)
    have HBE := Lib.hid (below_box w3 (.cells #[] 9))
    clear hb3 ho3 c0 hN KF
    go_wp2_with fail
    go_loopg [4, 5] N (fun g s4 s5 wr => ∃ k : Nat, s5 = .int .i64 k ∧ k ≤ N ∧ g = N - k ∧ Hid (wr.ownsRow w3.heap.size 9 1 s4 k (strCellsB ((R.take k).map (lineF cs)))) ∧ Hid (Below w3.heap.size w3 wr))
    case atStart => exact ⟨0, rfl, Nat.zero_le _, rfl, HE3, HBE⟩
    case round =>
      obtain ⟨k, rfl, hk, rfl, HO, HBR⟩ := hrel
      clear HE3 HBE
      by_cases hlt : k < N
      · obtain ⟨x, hx⟩ : ∃ x, R[k]? = some x := ⟨_, List.getElem?_eq_getElem (by rw [HN.out]; exact hlt)⟩
        obtain ⟨rfl, _⟩ | ⟨g3, cap3, e3, hg3, hnc, hnm, hq⟩ := own_cells fCells_len HO3.out
        · simp at hx
        injection e3 with e31 e32 e33
        subst e31
        subst e33
        have q0 := hq k x hx 0 _ rfl
        rw [Nat.add_zero] at q0
        have r0 := cell_keep' HBR.out q0
        have r1 := cell_keep' HBR.out (hq k x hx 1 _ rfl)
        have r2 := cell_keep' HBR.out (hq k x hx 2 _ rfl)
        have hx13 := hlt13.out x (List.mem_of_getElem? hx)
        obtain ⟨c, hc1, hc2⟩ := hfin.out x (List.mem_of_getElem? hx)
        have hlF : Hid (lineF cs x = match x.mth with | none => lineOf (Ck.clsText c, x.line) | some k => match c.methods[k]? with | none => ⟨#[]⟩ | some m => lineOf (Ck.mthText c m, x.line)) := by show _ = _; unfold lineF; rw [hc1]
        have HX := Lib.hid hx
        have hsz := HBR.out.size
        obtain ⟨ln, ci, mt⟩ := x
        simp only [] at r0 r1 r2 hx13 hc1 hc2 hlF
        have hcil := (List.getElem?_eq_some_iff.1 hc1).1
        rw [HCN.out] at hcil
        have HSC := Lib.hid (HSM.out.all c (List.mem_of_getElem? hc1))
        have hcn40 := HSC.out.name
        obtain ⟨bb, oo, vf, vm, rfl, _, hcc, _, hsf, hsmm⟩ := HH.out.get hc1
        have hB3R := Lib.hid (hB3.out.trans (HBR.out.mono hB3.out.size))
        obtain ⟨y0, y1, y2, y3⟩ := hcc
        have y0 := cell_keep' hB3R.out y0
        have y1 := cell_keep' hB3R.out y1
        have y2 := cell_keep' hB3R.out y2
        have y3 := cell_keep' hB3R.out y3
        have p0 := cell_keep' HBR.out C3.out
        obtain ⟨pff, cff, rfl⟩ := hsf.form
        obtain ⟨pm, cm, rfl⟩ := hsmm.form
        have hml := hsmm.len
        unfold maxLen at hml
        obtain ⟨FN, hFN⟩ : ∃ q, c.fields.length = q := ⟨_, rfl⟩
        obtain ⟨MN, hMN⟩ : ∃ q, c.methods.length = q := ⟨_, rfl⟩
        rw [hFN] at y2
        rw [hMN] at y3 hsmm hml
        have HMM := Lib.hid hsmm
        have HMN := Lib.hid hMN
        have HT := Lib.hid (fun W => textR_any ln hx13 W)
        obtain ⟨tx, htx⟩ : ∃ q, textOf ln = q := ⟨_, rfl⟩
        have htl : tx.size ≤ 100 := by rw [← htx]; exact textOf_len ln
        simp only [htx] at HT
        have HTX := Lib.hid htx
        have b3k : (k : Int) < (N : Int) := by omega
        have b0c : (0 : Int) ≤ (ci : Int) := by omega
        have b3c : (ci : Int) < (CN : Int) := by omega
        have hl0 := cell_lt' p0
        have hl1 := cell_lt' r0
        have hl2 := cell_lt' y0
        have R0 := Lib.hid r0
        have R1 := Lib.hid r1
        have R2 := Lib.hid r2
        clear q0 e32 hx hq hnc hnm hg3 hc1 hsf hsmm hFN hMN htx hlt13 hfin
        go_upto_region 8 with fail
        go_cut [6] (fun s6 wx => ∃ bc : Nat, s6 = .pointer (some ⟨bc, 0, none⟩) ∧ Hid (wx.heap[bc]? = some (.cells #[.string c.name, .bool c.actor, .slice pff FN cff, .slice pm MN cm] 36 (0, 0))) ∧ Hid (Below wr.heap.size wr wx))
        case first =>
          go_region
          all_goals
            go_wp2_with fail
            go_meet
            first
              | exact ⟨_, rfl, Lib.hid (MapKept.heap_alloc wr _).1, Lib.hid (below_box wr _).drew⟩
              | (trace_state; sorry)
        case rest =>
          obtain ⟨bc, rfl, HBC, HBX⟩ := hcut
          clear y0 y1 y2 y3 p0 r0 r1 r2 hl0 hl1 hl2
          have c0 := blk_cell HBC.out (j := 0) (u := .string c.name) rfl
          have r0 := cell_keep' HBX.out R0.out
          have r2 := cell_keep' HBX.out R2.out
          have k1 : ¬ 9223372036854775807 < 6 + c.name.size := by omega
          cases mt with
          | none =>
            simp only [idxI] at r2
            clear hc2
            have k4 : ¬ 9223372036854775807 < 6 + c.name.size + 2 := by omega
            have k5 : ¬ 9223372036854775807 < 6 + c.name.size + 2 + tx.size := by omega
            go_wp2_with fail
            refine (HT.out _).mono ?_
            rintro e w5 ⟨rfl, hb5⟩
            have HB5 := Lib.hid (below_next HBX.out hb5)
            have HB9 := Lib.hid (HBR.out.trans (HB5.out.mono HBR.out.size))
            have HO5 := Lib.hid (own_below HO.out HB5.out)
            clear hb5 c0 r0 r2
            go_wp2_with (at_builtin; refine wpList_append_own _ rfl _ _ 31 rfl w3.heap.size 9 i0 (.string ⟨#[]⟩) 1 16 Tryz.underlying31 hi0 hz0 hz1 hz2 rfl (by decide) _ _ _ rfl (HO5.out.alloc _) ⟨w5.heap.size, 0, none⟩ 1 1 [.string _] rfl rfl (news_cells (cs := #[.string _]) rfl (by simp)) (by simp [Value.oneCell']) (by unfold maxLen; omega) (by omega) (by have := HB9.out.size; simp <;> omega) ?_; intro v7 w7 ho7 hg7 _)
            go_roundg (N - (k + 1))
            case measure => omega
            case rel =>
              refine ⟨k + 1, by go_num, by omega, rfl, Lib.hid ?_, Lib.hid ((HB9.out.alloc HB9.out.size _).grown hg7 (by have := HB9.out.size; simp <;> omega) fun q hq => (HO.out.lt q hq).1)⟩
              rw [take_get HX.out, List.map_append]
              unfold strCellsB at ho7 ⊢
              rw [List.map_append, List.map_cons, List.map_nil, List.map_cons, List.map_nil, hlF.out]
              unfold lineOf
              rw [HTX.out]
              exact ho7
          | some km =>
            obtain ⟨m, hm⟩ := hc2 km rfl
            obtain ⟨b2, o2, vp, vb, rfl, _, hcm, _, _, _⟩ := HMM.out.get hm
            have z0 := cell_keep' (hB3R.out.trans (HBX.out.mono hB3R.out.size)) hcm.1
            have hmn40 := (HSC.out.all m (List.mem_of_getElem? hm)).name
            have hkm := (List.getElem?_eq_some_iff.1 hm).1
            rw [HMN.out] at hkm
            have b3m : (km : Int) < (MN : Int) := by omega
            have b0m : (0 : Int) ≤ (km : Int) := by omega
            have HM := Lib.hid hm
            clear hm hcm
            simp only [idxI] at r2
            clear hc2
            have c3 := blk_cell HBC.out (j := 3) (u := .slice (some ⟨b2, o2, none⟩) MN cm) rfl
            have k2 : ¬ 9223372036854775807 < 6 + c.name.size + 9 := by omega
            have k3 : ¬ 9223372036854775807 < 6 + c.name.size + 9 + m.name.size := by omega
            have k4 : ¬ 9223372036854775807 < 6 + c.name.size + 9 + m.name.size + 2 := by omega
            have k5 : ¬ 9223372036854775807 < 6 + c.name.size + 9 + m.name.size + 2 + tx.size := by omega
            go_wp2_with fail
            go_quiet (fail)
            go_wp2_with fail
            refine (HT.out _).mono ?_
            rintro e w5 ⟨rfl, hb5⟩
            have HB5 := Lib.hid (quietB (q := nq) HBX.out |> fun h => below_next h hb5)
            have HB9 := Lib.hid (HBR.out.trans (HB5.out.mono HBR.out.size))
            have HO5 := Lib.hid (own_below HO.out HB5.out)
            clear hb5 c0 r0 r2 c3 z0
            go_wp2_with (at_builtin; refine wpList_append_own _ rfl _ _ 31 rfl w3.heap.size 9 i0 (.string ⟨#[]⟩) 1 16 Tryz.underlying31 hi0 hz0 hz1 hz2 rfl (by decide) _ _ _ rfl (HO5.out.alloc _) ⟨w5.heap.size, 0, none⟩ 1 1 [.string _] rfl rfl (news_cells (cs := #[.string _]) rfl (by simp)) (by simp [Value.oneCell']) (by unfold maxLen; omega) (by omega) (by have := HB9.out.size; simp <;> omega) ?_; intro v7 w7 ho7 hg7 _)
            go_roundg (N - (k + 1))
            case measure => omega
            case rel =>
              refine ⟨k + 1, by go_num, by omega, rfl, Lib.hid ?_, Lib.hid ((HB9.out.alloc HB9.out.size _).grown hg7 (by have := HB9.out.size; simp <;> omega) fun q hq => (HO.out.lt q hq).1)⟩
              rw [take_get HX.out, List.map_append]
              unfold strCellsB at ho7 ⊢
              rw [List.map_append, List.map_cons, List.map_nil, List.map_cons, List.map_nil, hlF.out]
              simp only [HM.out]
              unfold lineOf
              rw [HTX.out]
              exact ho7
      · obtain rfl : k = N := by omega
        go_wp2_with fail
        go_ret
        refine ⟨_, rfl, ?_, hB3.out.trans (HBR.out.mono hB3.out.size)⟩
        rw [hck.out, List.length_map, HN.out]
        have h9 := HO.out
        rw [List.take_of_length_le (by rw [HN.out]; exact Nat.le_refl _)] at h9
        exact own_base h9 hB3.out.size
end Go.Proofs.YtdafdbjdnebnfaaGreatDoor
