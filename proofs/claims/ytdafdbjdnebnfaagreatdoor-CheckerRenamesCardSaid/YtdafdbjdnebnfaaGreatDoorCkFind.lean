/-
  The checker's Class and Method, walked.
-/
import Derived.Test.YtdafdbjdnebnfaaGreatDoorTrB
import Derived.Test.YtdafdbjdnebnfaaGreatDoorCkA
namespace Go.Proofs.YtdafdbjdnebnfaaGreatDoor
open Go.RowKit

def idxI : Option Nat → Int
  | none => -1
  | some i => i
theorem find_hit {α : Type} {p : α → Bool} {l : List α} {j : Nat} {x : α} (h : ∀ t x, t < j → l[t]? = some x → p x = false) (hj : l[j]? = some x) (hx : p x = true) : l.findIdx? p = some j := by
  obtain ⟨hlt, hg⟩ := List.getElem?_eq_some_iff.1 hj
  rw [List.findIdx?_eq_some_iff_getElem]
  refine ⟨hlt, by rw [hg]; exact hx, fun t ht => ?_⟩
  have := h t (l[t]'(by omega)) ht (List.getElem?_eq_getElem (by omega))
  simp [this]
theorem find_no {α : Type} {p : α → Bool} {l : List α} {n : Nat} (hn : l.length = n) (h : ∀ t x, t < n → l[t]? = some x → p x = false) : l.findIdx? p = none := by
  rw [List.findIdx?_eq_none_iff]
  intro x hx
  obtain ⟨t, ht, rfl⟩ := List.getElem_of_mem hx
  exact h t _ (by omega) (List.getElem?_eq_getElem ht)
theorem find_lt {α : Type} {p : α → Bool} {l : List α} {i : Nat} (h : l.findIdx? p = some i) : i < l.length := by
  rw [List.findIdx?_eq_some_iff_getElem] at h
  exact h.1

set_option maxRecDepth 100000 in
set_option maxHeartbeats 2000000 in
theorem find1C_any (nm : ByteArray) (B : Nat) (W : World) (hB : W.cell? ⟨B, 0, none⟩ = some (.string nm)) (x : Tr.C) (a1 a2 : Value) (h : ReadC W x a1 a2) :
    Calls Tryz.prog 36 #[classV x a1 a2, .pointer (some ⟨B, 0, none⟩)] W fun e w' => e = .returned (.bool (decide (x.name = nm))) ∧ Below W.heap.size W w' := by
  have hb0 := cell_lt' hB
  obtain ⟨pa, ca, rfl⟩ := h.2.1.form
  obtain ⟨pb, cb, rfl⟩ := h.2.2.form
  obtain ⟨AN, hAN⟩ : ∃ N, x.fields.length = N := ⟨_, rfl⟩
  obtain ⟨BN, hBN⟩ : ∃ N, x.methods.length = N := ⟨_, rfl⟩
  rw [hAN, hBN]
  clear h hAN hBN
  unfold classV
  go_enter Tryz.func36, Tryz.ntmps36
  go_wp2
  go_ret
  exact ⟨ret_bool (bytes_beq _ _), below_box _ _⟩

set_option maxRecDepth 100000 in
set_option maxHeartbeats 2000000 in
theorem findC_any (nm : ByteArray) (l : List Tr.C) (B : Nat) (W : World) (hB : W.cell? ⟨B, 0, none⟩ = some (.string nm)) (v : Value) (hS : SlC W v l) :
    Calls Tryz.prog 35 #[v, .func (.func 36) #[] #[.pointer (some ⟨B, 0, none⟩)]] W fun e w' => e = .returned (.int .i64 (idxI (Ck.classAt l nm))) ∧ Below W.heap.size W w' := by
  obtain ⟨p, c, rfl⟩ := hS.form
  have hll := hS.len
  unfold maxLen at hll
  obtain ⟨N, hN⟩ : ∃ N, l.length = N := ⟨_, rfl⟩
  rw [hN] at hS hll ⊢
  have HS := Lib.hid hS
  have HN := Lib.hid hN
  clear hS hN
  go_enter Tryz.func35, Tryz.ntmps35
  go_wp2
  go_loopw [8] (fun s8 wr => ∃ j : Nat, s8 = .int .i64 j ∧ j ≤ N ∧ (∀ t x, t < j → l[t]? = some x → decide (x.name = nm) = false) ∧ Below W.heap.size W wr) (fun s8 _ => N - (intOf s8).toNat)
  case atStart => exact ⟨0, rfl, Nat.zero_le _, fun t x ht => by omega, Below.refl _ _⟩
  case round =>
    obtain ⟨j, rfl, hj, hall, hbr⟩ := hrel
    have HA := Lib.hid hall
    have HBR := Lib.hid hbr
    have HB1 := Lib.hid (cell_keep' hbr hB)
    clear hall
    by_cases hlt : j < N
    · obtain ⟨x, hx⟩ : ∃ x, l[j]? = some x := ⟨_, List.getElem?_eq_getElem (by rw [HN.out]; exact hlt)⟩
      obtain ⟨b, oo, a1, a2, rfl, _, hc, hnm, hsp, hsb⟩ := (HS.out.keep hbr).get hx
      obtain ⟨x0, x1, x2, x3⟩ := hc
      have hr : ReadC wr x a1 a2 := ⟨hnm, hsp, hsb⟩
      have hcall := find1C_any nm B wr HB1.out x _ _ hr
      unfold classV at hcall
      have HX := Lib.hid hx
      clear hx hr hbr hnm hsp hsb
      cases hv : decide (x.name = nm)
      · rw [hv] at hcall
        have HCL := Lib.hid hcall
        have HV := Lib.hid hv
        clear hcall hv
        go_wp2_with fail
        refine HCL.out.mono ?_
        rintro e w2 ⟨rfl, hb2⟩
        go_wp2_with fail
        go_roundw
        case rel =>
          refine ⟨j + 1, by go_num, by omega, fun t y ht hty => ?_, below_next HBR.out hb2⟩
          by_cases e : t = j
          · subst e; rw [HX.out] at hty; cases hty; exact HV.out
          · exact HA.out t y (by omega) hty
        case measure => simp [intOf]; omega
      · rw [hv] at hcall
        have HCL := Lib.hid hcall
        have hf := Lib.hid (find_hit HA.out HX.out hv)
        clear hcall hv
        go_wp2_with fail
        refine HCL.out.mono ?_
        rintro e w2 ⟨rfl, hb2⟩
        go_wp2_with fail
        go_ret
        exact ⟨by unfold Ck.classAt; rw [hf.out]; rfl, below_next HBR.out hb2⟩
    · have hf := Lib.hid (find_no (n := N) HN.out (fun t x ht => HA.out t x (by omega)))
      clear hbr
      go_wp2_with fail
      go_ret
      exact ⟨by unfold Ck.classAt; rw [hf.out]; rfl, HBR.out⟩

set_option maxRecDepth 100000 in
set_option maxHeartbeats 2000000 in
theorem find1M_any (nm : ByteArray) (B : Nat) (W : World) (hB : W.cell? ⟨B, 0, none⟩ = some (.string nm)) (x : Tr.M) (a1 a2 : Value) (h : ReadM W x a1 a2) :
    Calls Tryz.prog 38 #[methV x a1 a2, .pointer (some ⟨B, 0, none⟩)] W fun e w' => e = .returned (.bool (decide (x.name = nm))) ∧ Below W.heap.size W w' := by
  have hb0 := cell_lt' hB
  obtain ⟨pa, ca, rfl⟩ := h.2.1.form
  obtain ⟨pb, cb, rfl, _⟩ := h.2.2.form
  obtain ⟨AN, hAN⟩ : ∃ N, x.params.length = N := ⟨_, rfl⟩
  obtain ⟨BN, hBN⟩ : ∃ N, x.body.length = N := ⟨_, rfl⟩
  rw [hAN, hBN]
  clear h hAN hBN
  unfold methV
  go_enter Tryz.func38, Tryz.ntmps38
  go_wp2
  go_ret
  exact ⟨ret_bool (bytes_beq _ _), below_box _ _⟩

set_option maxRecDepth 100000 in
set_option maxHeartbeats 2000000 in
theorem findM_any (nm : ByteArray) (l : List Tr.M) (B : Nat) (W : World) (hB : W.cell? ⟨B, 0, none⟩ = some (.string nm)) (v : Value) (hS : SlM W v l) :
    Calls Tryz.prog 37 #[v, .func (.func 38) #[] #[.pointer (some ⟨B, 0, none⟩)]] W fun e w' => e = .returned (.int .i64 (idxI (Ck.methodAt l nm))) ∧ Below W.heap.size W w' := by
  obtain ⟨p, c, rfl⟩ := hS.form
  have hll := hS.len
  unfold maxLen at hll
  obtain ⟨N, hN⟩ : ∃ N, l.length = N := ⟨_, rfl⟩
  rw [hN] at hS hll ⊢
  have HS := Lib.hid hS
  have HN := Lib.hid hN
  clear hS hN
  go_enter Tryz.func37, Tryz.ntmps37
  go_wp2
  go_loopw [8] (fun s8 wr => ∃ j : Nat, s8 = .int .i64 j ∧ j ≤ N ∧ (∀ t x, t < j → l[t]? = some x → decide (x.name = nm) = false) ∧ Below W.heap.size W wr) (fun s8 _ => N - (intOf s8).toNat)
  case atStart => exact ⟨0, rfl, Nat.zero_le _, fun t x ht => by omega, Below.refl _ _⟩
  case round =>
    obtain ⟨j, rfl, hj, hall, hbr⟩ := hrel
    have HA := Lib.hid hall
    have HBR := Lib.hid hbr
    have HB1 := Lib.hid (cell_keep' hbr hB)
    clear hall
    by_cases hlt : j < N
    · obtain ⟨x, hx⟩ : ∃ x, l[j]? = some x := ⟨_, List.getElem?_eq_getElem (by rw [HN.out]; exact hlt)⟩
      obtain ⟨b, oo, a1, a2, rfl, _, hc, hnm, hsp, hsb⟩ := (HS.out.keep hbr).get hx
      obtain ⟨x0, x1, x2⟩ := hc
      have hr : ReadM wr x a1 a2 := ⟨hnm, hsp, hsb⟩
      have hcall := find1M_any nm B wr HB1.out x _ _ hr
      unfold methV at hcall
      have HX := Lib.hid hx
      clear hx hr hbr hnm hsp hsb
      cases hv : decide (x.name = nm)
      · rw [hv] at hcall
        have HCL := Lib.hid hcall
        have HV := Lib.hid hv
        clear hcall hv
        go_wp2_with fail
        refine HCL.out.mono ?_
        rintro e w2 ⟨rfl, hb2⟩
        go_wp2_with fail
        go_roundw
        case rel =>
          refine ⟨j + 1, by go_num, by omega, fun t y ht hty => ?_, below_next HBR.out hb2⟩
          by_cases e : t = j
          · subst e; rw [HX.out] at hty; cases hty; exact HV.out
          · exact HA.out t y (by omega) hty
        case measure => simp [intOf]; omega
      · rw [hv] at hcall
        have HCL := Lib.hid hcall
        have hf := Lib.hid (find_hit HA.out HX.out hv)
        clear hcall hv
        go_wp2_with fail
        refine HCL.out.mono ?_
        rintro e w2 ⟨rfl, hb2⟩
        go_wp2_with fail
        go_ret
        exact ⟨by unfold Ck.methodAt; rw [hf.out]; rfl, below_next HBR.out hb2⟩
    · have hf := Lib.hid (find_no (n := N) HN.out (fun t x ht => HA.out t x (by omega)))
      clear hbr
      go_wp2_with fail
      go_ret
      exact ⟨by unfold Ck.methodAt; rw [hf.out]; rfl, HBR.out⟩

set_option maxRecDepth 100000 in
set_option maxHeartbeats 2000000 in
theorem class_any (nm : ByteArray) (cs : List Tr.C) (v : Value) (w : World) (h : SlC w v cs) :
    Calls Tryz.prog 18 #[.agg #[v], .string nm] w fun e w' => e = .returned (.tuple #[.int .i64 ((Ck.classAt cs nm).getD 0 : Nat), .bool (Ck.classAt cs nm).isSome]) ∧ Below w.heap.size w w' := by
  obtain ⟨p, c, rfl⟩ := h.form
  have hll := h.len
  unfold maxLen at hll
  have KF : Hid (∀ W B, Below w.heap.size w W → W.cell? ⟨B, 0, none⟩ = some (.string nm) → Calls Tryz.prog 35 #[.slice p cs.length c, .func (.func 36) #[] #[.pointer (some ⟨B, 0, none⟩)]] W fun e w' => e = .returned (.int .i64 (idxI (Ck.classAt cs nm))) ∧ Below W.heap.size W w') := fun W B hb hB =>
    findC_any nm cs B W hB _ (h.keep hb)
  cases hcl : Ck.classAt cs nm with
  | none =>
    rw [hcl] at KF
    simp only [idxI] at KF
    obtain ⟨N, hN⟩ : ∃ N, cs.length = N := ⟨_, rfl⟩
    rw [hN] at KF ⊢
    have hbx := below_next (below_box w (.cells #[.slice p N c] 24)) (below_box (w.alloc (.cells #[.slice p N c] 24)) (.cells #[.string nm] 9))
    have hcl2 := box_cell (w.alloc (.cells #[.slice p N c] 24)) #[.string nm] 9 0 _ rfl
    simp only [World.size_alloc] at hcl2
    have HC := Lib.hid (KF.out _ _ hbx hcl2)
    have HBX := Lib.hid hbx
    clear h hcl hN hbx hcl2 KF
    go_enter Tryz.func18, Tryz.ntmps18
    go_wp2_with fail
    refine HC.out.mono ?_
    rintro e w2 ⟨rfl, hb2⟩
    go_wp2_with fail
    go_ret2
    exact ⟨rfl, below_next HBX.out hb2⟩
  | some i =>
    rw [hcl] at KF
    simp only [idxI] at KF
    have hil := find_lt hcl
    obtain ⟨N, hN⟩ : ∃ N, cs.length = N := ⟨_, rfl⟩
    rw [hN] at KF hil hll ⊢
    have hbx := below_next (below_box w (.cells #[.slice p N c] 24)) (below_box (w.alloc (.cells #[.slice p N c] 24)) (.cells #[.string nm] 9))
    have hcl2 := box_cell (w.alloc (.cells #[.slice p N c] 24)) #[.string nm] 9 0 _ rfl
    simp only [World.size_alloc] at hcl2
    have HC := Lib.hid (KF.out _ _ hbx hcl2)
    have HBX := Lib.hid hbx
    clear h hcl hN hbx hcl2 KF
    go_enter Tryz.func18, Tryz.ntmps18
    go_wp2_with fail
    refine HC.out.mono ?_
    rintro e w2 ⟨rfl, hb2⟩
    go_wp2_with fail
    go_ret2
    exact ⟨rfl, below_next HBX.out hb2⟩

set_option maxRecDepth 100000 in
set_option maxHeartbeats 2000000 in
theorem method_any (nm : ByteArray) (cl : Tr.C) (fv v : Value) (w : World) (hfv : SlStr w fv cl.fields) (h : SlM w v cl.methods) :
    Calls Tryz.prog 20 #[classV cl fv v, .string nm] w fun e w' => e = .returned (.tuple #[.int .i64 ((Ck.methodAt cl.methods nm).getD 0 : Nat), .bool (Ck.methodAt cl.methods nm).isSome]) ∧ Below w.heap.size w w' := by
  obtain ⟨p, c, rfl⟩ := h.form
  obtain ⟨pf, cf, rfl⟩ := hfv.form
  obtain ⟨FN, hFN⟩ : ∃ N, cl.fields.length = N := ⟨_, rfl⟩
  unfold classV
  rw [hFN]
  clear hfv hFN
  have hll := h.len
  unfold maxLen at hll
  have KF : Hid (∀ W B, Below w.heap.size w W → W.cell? ⟨B, 0, none⟩ = some (.string nm) → Calls Tryz.prog 37 #[.slice p cl.methods.length c, .func (.func 38) #[] #[.pointer (some ⟨B, 0, none⟩)]] W fun e w' => e = .returned (.int .i64 (idxI (Ck.methodAt cl.methods nm))) ∧ Below W.heap.size W w') := fun W B hb hB =>
    findM_any nm cl.methods B W hB _ (h.keep hb)
  cases hcl : Ck.methodAt cl.methods nm with
  | none =>
    rw [hcl] at KF
    simp only [idxI] at KF
    obtain ⟨N, hN⟩ : ∃ N, cl.methods.length = N := ⟨_, rfl⟩
    rw [hN] at KF ⊢
    have hbx := below_next (below_box w (.cells #[.string cl.name, .bool cl.actor, .slice pf FN cf, .slice p N c] 36)) (below_box (w.alloc (.cells #[.string cl.name, .bool cl.actor, .slice pf FN cf, .slice p N c] 36)) (.cells #[.string nm] 9))
    have hcl2 := box_cell (w.alloc (.cells #[.string cl.name, .bool cl.actor, .slice pf FN cf, .slice p N c] 36)) #[.string nm] 9 0 _ rfl
    simp only [World.size_alloc] at hcl2
    have HC := Lib.hid (KF.out _ _ hbx hcl2)
    have HBX := Lib.hid hbx
    clear h hcl hN hbx hcl2 KF
    go_enter Tryz.func20, Tryz.ntmps20
    go_wp2_with fail
    refine HC.out.mono ?_
    rintro e w2 ⟨rfl, hb2⟩
    go_wp2_with fail
    go_ret2
    exact ⟨rfl, below_next HBX.out hb2⟩
  | some i =>
    rw [hcl] at KF
    simp only [idxI] at KF
    have hil := find_lt hcl
    obtain ⟨N, hN⟩ : ∃ N, cl.methods.length = N := ⟨_, rfl⟩
    rw [hN] at KF hil hll ⊢
    have hbx := below_next (below_box w (.cells #[.string cl.name, .bool cl.actor, .slice pf FN cf, .slice p N c] 36)) (below_box (w.alloc (.cells #[.string cl.name, .bool cl.actor, .slice pf FN cf, .slice p N c] 36)) (.cells #[.string nm] 9))
    have hcl2 := box_cell (w.alloc (.cells #[.string cl.name, .bool cl.actor, .slice pf FN cf, .slice p N c] 36)) #[.string nm] 9 0 _ rfl
    simp only [World.size_alloc] at hcl2
    have HC := Lib.hid (KF.out _ _ hbx hcl2)
    have HBX := Lib.hid hbx
    clear h hcl hN hbx hcl2 KF
    go_enter Tryz.func20, Tryz.ntmps20
    go_wp2_with fail
    refine HC.out.mono ?_
    rintro e w2 ⟨rfl, hb2⟩
    go_wp2_with fail
    go_ret2
    exact ⟨rfl, below_next HBX.out hb2⟩
end Go.Proofs.YtdafdbjdnebnfaaGreatDoor
