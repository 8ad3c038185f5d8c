/-
  CheckerFinds, walked.
-/
import Derived.Test.YtdafdbjdnebnfaaGreatDoorCkOwn
import Derived.Test.YtdafdbjdnebnfaaGreatDoorCkRefFind
import Derived.Deep.LoopGhost
import Derived.Test.YtdafdbjdnebnfaaGreatDoorCkB
namespace Go.Proofs.YtdafdbjdnebnfaaGreatDoor
open Go.RowKit Go.Maps

theorem classInfo : (Tryz.prog.info? 36).map (fun i => (i.zero, i.size, i.bytes)) = some (some (.agg #[.string ⟨#[]⟩, .bool false, .slice none 0 0, .slice none 0 0]), 4, 72) := by kernel_rfl
theorem methInfo : (Tryz.prog.info? 41).map (fun i => (i.zero, i.size, i.bytes)) = some (some (.agg #[.string ⟨#[]⟩, .slice none 0 0, .slice none 0 0]), 3, 64) := by kernel_rfl
theorem readC_bare (w : World) (nm : ByteArray) (act : Bool) (h : nm.size ≤ maxLen) : ReadC w ⟨nm, act, [], []⟩ (.slice none 0 0) (.slice none 0 0) :=
  ⟨h, ⟨_, _, rfl, Nat.zero_le _, fun h => absurd rfl h, fun j n hj => by simp at hj⟩, ⟨_, _, rfl, Nat.zero_le _, fun h => absurd rfl h, fun j n hj => by simp at hj⟩⟩
theorem readM_bare (w : World) (nm : ByteArray) (h : nm.size ≤ maxLen) : ReadM w ⟨nm, [], []⟩ (.slice none 0 0) (.slice none 0 0) :=
  ⟨h, ⟨_, _, rfl, Nat.zero_le _, fun h => absurd rfl h, fun j n hj => by simp at hj⟩, .nil _ _⟩

theorem bareC_one (nm : ByteArray) (act : Bool) : ∀ a ∈ [((⟨nm, act, [], []⟩ : Tr.C), (.slice none 0 0 : Value), (.slice none 0 0 : Value))], ∀ u ∈ cCells a, u.oneCell' = true := by
  intro a ha u hu
  obtain rfl := List.mem_singleton.1 ha
  simp only [cCells, List.mem_cons, List.not_mem_nil, or_false] at hu
  rcases hu with rfl | rfl | rfl | rfl <;> rfl
theorem bareM_one (nm : ByteArray) : ∀ a ∈ [((⟨nm, [], []⟩ : Tr.M), (.slice none 0 0 : Value), (.slice none 0 0 : Value))], ∀ u ∈ mCells a, u.oneCell' = true := by
  intro a ha u hu
  obtain rfl := List.mem_singleton.1 ha
  simp only [mCells, List.mem_cons, List.not_mem_nil, or_false] at hu
  rcases hu with rfl | rfl | rfl <;> rfl
set_option maxRecDepth 100000 in
set_option maxHeartbeats 20000000 in
theorem law_finds (nm : ByteArray) (hnm : nm.size ≤ maxLen) (v : Value) (cs : List Tr.C) (w : World) (hE : CkEnv w) (h : SlC w v cs) :
    Calls Tryz.prog 5 #[.agg #[v], .string nm] w fun e w' => e = .returned (.bool true) ∧ Below w.heap.size w w' := by
  obtain ⟨i0, hi0, hz0, hz1, hz2⟩ := info_parts classInfo
  obtain ⟨i1, hi1, hy0, hy1, hy2⟩ := info_parts methInfo
  have HE := Lib.hid hE
  have HS := Lib.hid h
  obtain ⟨rows, hrows, hread, hsrc⟩ := h.rows
  obtain ⟨pv, cpv, rfl⟩ := h.form
  obtain ⟨CN, hCN⟩ : ∃ q, cs.length = q := ⟨_, rfl⟩
  rw [hCN] at HS hsrc ⊢
  have hRN : rows.length = CN := by rw [← hCN, ← hrows, List.length_map]
  have hbx := below_box w (.cells #[.slice pv CN cpv] 24)
  have hbx2 := below_box (w.alloc (.cells #[.slice pv CN cpv] 24)) (.cells #[.slice pv CN cpv] 24)
  have hB2 := Lib.hid (below_next hbx hbx2)
  have hg := box_cell (w.alloc (.cells #[.slice pv CN cpv] 24)) #[.slice pv CN cpv] 24 0 _ rfl
  have c0 := cell_keep' hbx2 (box_cell w #[.slice pv CN cpv] 24 0 _ rfl)
  simp only [World.size_alloc] at hg
  have KF := Lib.hid (lawFew_any _ cs _ _ 1 hg (HS.out.keep hB2.out))
  have KA : Hid (∀ W, Below w.heap.size w W → Calls Tryz.prog 14 #[] W fun e w' => e = .returned (.bool true) ∧ Below W.heap.size W w') := fun W hb => awake40_any W (HE.out.keep hb)
  have KC : Hid (∀ W s, Below w.heap.size w W → Calls Tryz.prog 18 #[.agg #[.slice pv CN cpv], .string s] W fun e w' => e = .returned (.tuple #[.int .i64 ((Ck.classAt cs s).getD 0 : Nat), .bool (Ck.classAt cs s).isSome]) ∧ Below W.heap.size W w') := fun W s hb => class_any s cs _ W (HS.out.keep hb)
  have KR : Hid (∀ W s, Below w.heap.size w W → Calls Tryz.prog 19 #[.agg #[.slice pv CN cpv], .string s] W fun e w' => e = .returned (.tuple #[.int .i64 ((Ck.classAt cs s).getD 0 : Nat), .bool (Ck.classAt cs s).isSome]) ∧ Below W.heap.size W w') := fun W s hb => refClass_any s cs _ W (HS.out.keep hb)
  have C0 := Lib.hid c0
  have HSRC := Lib.hid hsrc
  have HREAD := Lib.hid hread
  have HROWS := Lib.hid hrows
  have HRN := Lib.hid hRN
  have HCN := Lib.hid hCN
  clear hE h hCN hbx hbx2 hg c0 hsrc hread hrows hRN
  cases hq : Tr.fewP cs 300
  · rw [hq] at KF
    clear hq
    go_enter Tryz.func5, Tryz.ntmps5
    go_wp2_with fail
    refine KF.out.mono ?_
    rintro e w2 ⟨rfl, hb2⟩
    have hB3 := Lib.hid (below_next hB2.out hb2)
    clear hb2
    go_wp2_with fail
    refine (KA.out _ hB3.out).mono ?_
    rintro e w3 ⟨rfl, hb3⟩
    go_wp2_with fail
    go_ret
    exact ⟨rfl, below_next hB3.out hb3⟩
  · have hsm := Ck.small_of hq (by decide)
    rw [hq] at KF
    have hcl := Nat.le_trans (len_cnt cs) hsm.cnt
    rw [HCN.out] at hcl
    have HSM := Lib.hid hsm
    clear hq hsm
    by_cases hlong : 100 < nm.size
    · go_enter Tryz.func5, Tryz.ntmps5
      go_wp2_with fail
      refine KF.out.mono ?_
      rintro e w2 ⟨rfl, hb2⟩
      have hB3 := Lib.hid (below_next hB2.out hb2)
      clear hb2
      go_wp2_with fail
      refine (KA.out _ hB3.out).mono ?_
      rintro e w3 ⟨rfl, hb3⟩
      go_wp2_with fail
      go_ret
      exact ⟨rfl, below_next hB3.out hb3⟩
    · go_enter Tryz.func5, Tryz.ntmps5
      go_wp2_with fail
      refine KF.out.mono ?_
      rintro e w2 ⟨rfl, hb2⟩
      have hB3 := Lib.hid (below_next hB2.out hb2)
      have c0 := cell_keep' hb2 C0.out
      have C3 := Lib.hid c0
      have hgl := cell_lt' c0
      have hbe := below_box w2 (.cells #[] 36)
      have HSR2 := Lib.hid ((HSRC.out.keep hB3.out).keep hbe)
      have hbC := cell_keep' hbe c0
      clear hb2
      go_wp2_with (at_builtin; first
        | (refine wpList_append_src cCells 4 cCells_len rfl _ _ 22 rfl w2.heap.size 36 i0 (.agg #[.string ⟨#[]⟩, .bool false, .slice none 0 0, .slice none 0 0]) 72 Tryz.underlying22 hi0 hz0 hz1 hz2 rfl (by decide) _ _ rows [(⟨nm, false, [], []⟩, .slice none 0 0, .slice none 0 0)] rfl rfl (HO7.out.alloc _) HL7.out (bareC_one nm false) (by rw [HRN.out]; unfold maxLen; simp; omega) (by rw [HRN.out]; simp; omega) (by have := HB7.out.size; simp <;> omega) ?_
           intro v8 w8 ho8 hg8
           have HO8 := Lib.hid ho8
           have HB8 : Hid (Below w2.heap.size w2 w8) := Lib.hid ((HB7.out.alloc HB7.out.size _).grown hg8 (by have := HB7.out.size; simp <;> omega) fun q hq => (own_ge HO7.out hq).1)
           clear ho8 hg8
           have HRD8 : Hid (∀ x ∈ rows ++ [((⟨nm, false, [], []⟩ : Tr.C), (.slice none 0 0 : Value), (.slice none 0 0 : Value))], ReadC w8 x.1 x.2.1 x.2.2) := by
             intro x hx
             rcases List.mem_append.1 hx with hx | hx
             · exact (HREAD.out x hx).keep (below_next hB3.out HB8.out)
             · obtain rfl := List.mem_singleton.1 hx
               exact readC_bare _ _ _ hnm
           have hs8 := slC_own HO8.out HRD8.out
           rw [List.map_append, HROWS.out] at hs8
           change SlC w8 v8 (cs ++ [⟨nm, false, [], []⟩]) at hs8
           obtain ⟨L, hL⟩ : ∃ q, cs ++ [(⟨nm, false, [], []⟩ : Tr.C)] = q := ⟨_, rfl⟩
           have hlen : L.length = CN + 1 := by rw [← hL, List.length_append, HCN.out]; rfl
           have hmths : Hid (∀ x ∈ L, x.methods.length ≤ 1000000) := by
             intro x hx
             rw [← hL] at hx
             rcases List.mem_append.1 hx with hx | hx
             · exact (HSM.out.all x hx).mths
             · obtain rfl := List.mem_singleton.1 hx
               exact Nat.zero_le _
           rw [hL] at hs8
           obtain ⟨p8, k8, rfl⟩ := hs8.form
           rw [hlen] at hs8
           have hlen8 : (rows ++ [((⟨nm, false, [], []⟩ : Tr.C), (.slice none 0 0 : Value), (.slice none 0 0 : Value))]).length = CN + 1 := by rw [List.length_append, HRN.out]; rfl
           have hB9 := Lib.hid (below_next hB3.out HB8.out)
           have C9 := Lib.hid (cell_keep' HB8.out (cell_keep' (Below.refl _ _) C3.out))
           have HS8 := Lib.hid hs8
           have HL := Lib.hid hlen
           rw [HL.out]
           clear HO7 HL7 HB7 HO8 HRD8 hs8 hlen8 hL hlen)
        | (refine wpList_append_src cCells 4 cCells_len rfl _ _ 22 rfl w2.heap.size 36 i0 (.agg #[.string ⟨#[]⟩, .bool false, .slice none 0 0, .slice none 0 0]) 72 Tryz.underlying22 hi0 hz0 hz1 hz2 rfl (by decide) _ _ [] rows rfl rfl (own_empty w2 _ 4) HSR2.out (cCells_one HREAD.out) (by rw [HRN.out]; unfold maxLen; simp; omega) (by rw [HRN.out]; simp; omega) (by simp) ?_
           intro v7 w7 ho7 hg7
           rw [List.nil_append] at ho7
           have HO7 := Lib.hid ho7
           have HB7 : Hid (Below w2.heap.size w2 w7) := Lib.hid ((below_box w2 (.cells #[] 36)).grown hg7 (by simp) fun q hq => by cases hq; exact Nat.le_refl _)
           have HL7 := Lib.hid (SrcAt.lit (f := cCells) w7 (⟨nm, false, [], []⟩, .slice none 0 0, .slice none 0 0) 36 #[.string nm, .bool false, .slice none 0 0, .slice none 0 0] rfl 1)
           clear ho7 hg7 c0 hgl hbC hbe))
      go_wp2_with fail
      go_loopg [38] (CN + 1) (fun g s38 wr => ∃ j : Nat, s38 = .int .i64 j ∧ j ≤ CN + 1 ∧ g = CN + 1 - j ∧ Hid (Below w8.heap.size w8 wr))
      case atStart => exact ⟨0, rfl, Nat.zero_le _, rfl, Lib.hid (Below.refl _ _)⟩
      case round =>
        obtain ⟨j, rfl, hj, rfl, HBR⟩ := hrel
        have hBR := Lib.hid (below_next hB9.out HBR.out)
        by_cases hlt : j < CN + 1
        · obtain ⟨x, hx⟩ : ∃ x, L[j]? = some x := ⟨_, List.getElem?_eq_getElem (by rw [HL.out]; exact hlt)⟩
          obtain ⟨b, oo, a1, a2, rfl, _, hc, hnmx, hsf, hsm⟩ := (HS8.out.keep HBR.out).get hx
          obtain ⟨x0, x1, x2, x3⟩ := hc
          have hml := hmths.out x (List.mem_of_getElem? hx)
          obtain ⟨mrows, hmrows, hmread, hmsrc⟩ := hsm.rows
          obtain ⟨pf, cf, rfl⟩ := hsf.form
          obtain ⟨pm, cm, rfl⟩ := hsm.form
          obtain ⟨FN, hFN⟩ : ∃ q, x.fields.length = q := ⟨_, rfl⟩
          obtain ⟨MN, hMN⟩ : ∃ q, x.methods.length = q := ⟨_, rfl⟩
          rw [hFN] at hsf x2
          rw [hMN] at hsm hmsrc x3 hml
          have hMR : mrows.length = MN := by rw [← hMN, ← hmrows, List.length_map]
          have hbx1 := below_box wr (.cells #[.string x.name, .bool x.actor, .slice pf FN cf, .slice pm MN cm] 36)
          have hbx2 := below_box (wr.alloc (.cells #[.string x.name, .bool x.actor, .slice pf FN cf, .slice pm MN cm] 36)) (.cells #[.string nm, .string x.name] 9)
          have c60 := cell_keep' hbx2 (box_cell wr #[.string x.name, .bool x.actor, .slice pf FN cf, .slice pm MN cm] 36 0 _ rfl)
          have c61 := cell_keep' hbx2 (box_cell wr #[.string x.name, .bool x.actor, .slice pf FN cf, .slice pm MN cm] 36 1 _ rfl)
          have c62 := cell_keep' hbx2 (box_cell wr #[.string x.name, .bool x.actor, .slice pf FN cf, .slice pm MN cm] 36 2 _ rfl)
          have c63 := cell_keep' hbx2 (box_cell wr #[.string x.name, .bool x.actor, .slice pf FN cf, .slice pm MN cm] 36 3 _ rfl)
          have d0 := box_cell (wr.alloc (.cells #[.string x.name, .bool x.actor, .slice pf FN cf, .slice pm MN cm] 36)) #[.string nm, .string x.name] 9 0 _ rfl
          have d1 := box_cell (wr.alloc (.cells #[.string x.name, .bool x.actor, .slice pf FN cf, .slice pm MN cm] 36)) #[.string nm, .string x.name] 9 1 _ rfl
          simp only [World.size_alloc] at d0 d1
          have hbx3 := below_next hbx1 hbx2
          have C9c := Lib.hid (cell_keep' hbx3 (cell_keep' HBR.out C9.out))
          obtain ⟨w3, hw3⟩ : ∃ q, q = (wr.alloc (.cells #[.string x.name, .bool x.actor, .slice pf FN cf, .slice pm MN cm] 36)).alloc (.cells #[.string nm, .string x.name] 9) := ⟨_, rfl⟩
          obtain ⟨bx, hbx⟩ : ∃ q, wr.heap.size = q := ⟨_, rfl⟩
          rw [← hw3] at c60 c61 c62 c63 d0 d1 hbx3 C9c
          rw [hbx] at c60 c61 c62 c63 d0 d1
          have HW3 := Lib.hid hw3
          have HBXN := Lib.hid hbx
          have C60 := Lib.hid c60
          have C61 := Lib.hid c61
          have C62 := Lib.hid c62
          have C63 := Lib.hid c63
          have D0 := Lib.hid d0
          have D1 := Lib.hid d1
          have HBX3 := Lib.hid hbx3
          have HMSRC := Lib.hid hmsrc
          have HMREAD := Lib.hid hmread
          have HMROWS := Lib.hid hmrows
          have HMR := Lib.hid hMR
          have HMN := Lib.hid hMN
          have KM : Hid (∀ W s, Below wr.heap.size wr W → Calls Tryz.prog 20 #[.agg #[.string x.name, .bool x.actor, .slice pf FN cf, .slice pm MN cm], .string s] W fun e w' => e = .returned (.tuple #[.int .i64 ((Ck.methodAt x.methods s).getD 0 : Nat), .bool (Ck.methodAt x.methods s).isSome]) ∧ Below W.heap.size W w') := fun W s hb => by have := method_any s x _ _ W (hsf.keep hb) (hsm.keep hb); unfold classV at this; exact this
          have KN : Hid (∀ W s, Below wr.heap.size wr W → Calls Tryz.prog 21 #[.agg #[.string x.name, .bool x.actor, .slice pf FN cf, .slice pm MN cm], .string s] W fun e w' => e = .returned (.tuple #[.int .i64 ((Ck.methodAt x.methods s).getD 0 : Nat), .bool (Ck.methodAt x.methods s).isSome]) ∧ Below W.heap.size W w') := fun W s hb => by have := refMethod_any s x _ _ W (hsf.keep hb) (hsm.keep hb); unfold classV at this; exact this
          have b3j : (j : Int) < (CN : Int) + 1 := by omega
          clear hx hnmx hsf hsm hmrows hmread hmsrc hFN hMN hMR hbx1 hbx2 c60 c61 c62 c63 d0 d1 hbx3 hw3 hbx
          go_wp2_with fail
          rw [← HW3.out, HBXN.out]
          clear x0 x1 x2 x3
          go_loopg [47] 2 (fun g s47 wq => ∃ t : Nat, s47 = .int .i64 t ∧ t ≤ 2 ∧ g = 2 - t ∧ Hid (Below w3.heap.size w3 wq))
          case atStart => exact ⟨0, rfl, by omega, rfl, Lib.hid (Below.refl _ _)⟩
          case round =>
            obtain ⟨t, rfl, ht, rfl, HQ⟩ := hrel
            have HBQ := Lib.hid (below_next hBR.out (below_next HBX3.out HQ.out))
            by_cases ht2 : t < 2
            · obtain ⟨s, hs⟩ : ∃ s, wr.cell? ⟨bx + 1, t, none⟩ = some (.string s) := by
                match t, ht2 with
                | 0, _ => exact ⟨_, cell_keep' HQ.out D0.out⟩
                | 1, _ => exact ⟨_, cell_keep' HQ.out D1.out⟩
              have c9 := cell_keep' HQ.out C9c.out
              have K1 := Lib.hid (fun W hb => KC.out W s hb)
              have K2 := Lib.hid (fun W hb => KR.out W s hb)
              obtain ⟨ci, hci⟩ : ∃ q, (Ck.classAt cs s).getD 0 = q := ⟨_, rfl⟩
              obtain ⟨co, hco⟩ : ∃ q, (Ck.classAt cs s).isSome = q := ⟨_, rfl⟩
              simp only [hci, hco] at K1 K2
              have e1 : ((ci : Int) != (ci : Int)) = false := by simp
              have e2 : (co != co) = false := by simp
              clear hci hco
              go_wp2_with fail
              refine (K1.out _ HBQ.out).mono ?_
              rintro e w4 ⟨rfl, hb4⟩
              have c9b := cell_keep' hb4 c9
              have HB4 := Lib.hid (below_next HBQ.out hb4)
              have HQ4 := Lib.hid (below_next HQ.out hb4)
              clear c9 hs hb4
              go_wp2_with fail
              refine (K2.out _ HB4.out).mono ?_
              rintro e w5 ⟨rfl, hb5⟩
              have HQ5 := Lib.hid (below_next HQ4.out hb5)
              clear c9b hb5
              go_wp2_with fail
              go_roundg (2 - (t + 1))
              case measure => omega
              case rel => exact ⟨t + 1, by go_num, by omega, rfl, HQ5⟩
            · obtain ⟨wq, hwq⟩ : ∃ q, q = wr := ⟨_, rfl⟩
              rw [← hwq] at HQ HBQ ⊢
              clear hwq
              have c63 := cell_keep' HQ.out C63.out
              have HBRQ := Lib.hid (below_next HBX3.out HQ.out)
              have hbe := below_box wq (.cells #[] 41)
              have HSR2 := Lib.hid ((HMSRC.out.keep HBRQ.out).keep hbe)
              have hbC := cell_keep' hbe c63
              clear hbe
              go_wp2_with (at_builtin; first
                | (refine wpList_append_src mCells 3 mCells_len rfl _ _ 34 rfl wq.heap.size 41 i1 (.agg #[.string ⟨#[]⟩, .slice none 0 0, .slice none 0 0]) 64 Tryz.underlying34 hi1 hy0 hy1 hy2 rfl (by decide) _ _ mrows [(⟨nm, [], []⟩, .slice none 0 0, .slice none 0 0)] rfl rfl (HO10.out.alloc _) HL10.out (bareM_one nm) (by rw [HMR.out]; unfold maxLen; simp; omega) (by rw [HMR.out]; simp; omega) (by have := HB10.out.size; simp <;> omega) ?_
                   intro v11 w11 ho11 hg11
                   have HO11 := Lib.hid ho11
                   have HB11 : Hid (Below wq.heap.size wq w11) := Lib.hid ((HB10.out.alloc HB10.out.size _).grown hg11 (by have := HB10.out.size; simp <;> omega) fun q hq => (own_ge HO10.out hq).1)
                   clear ho11 hg11
                   have HRD11 : Hid (∀ x ∈ mrows ++ [((⟨nm, [], []⟩ : Tr.M), (.slice none 0 0 : Value), (.slice none 0 0 : Value))], ReadM w11 x.1 x.2.1 x.2.2) := by
                     intro x hx
                     rcases List.mem_append.1 hx with hx | hx
                     · exact (HMREAD.out x hx).keep (below_next HBRQ.out HB11.out)
                     · obtain rfl := List.mem_singleton.1 hx
                       exact readM_bare _ _ hnm
                   have hs11 := slM_own HO11.out HRD11.out
                   rw [List.map_append, HMROWS.out] at hs11
                   change SlM w11 v11 (x.methods ++ [⟨nm, [], []⟩]) at hs11
                   obtain ⟨ML, hML⟩ : ∃ q, x.methods ++ [(⟨nm, [], []⟩ : Tr.M)] = q := ⟨_, rfl⟩
                   have hlen : ML.length = MN + 1 := by rw [← hML, List.length_append, HMN.out]; rfl
                   rw [hML] at hs11
                   obtain ⟨p11, k11, rfl⟩ := hs11.form
                   rw [hlen] at hs11
                   have HS11 := Lib.hid hs11
                   have HMLN := Lib.hid hlen
                   rw [HMLN.out]
                   clear HO10 HL10 HB10 HO11 HRD11 hs11 hML hlen)
                | (refine wpList_append_src mCells 3 mCells_len rfl _ _ 34 rfl wq.heap.size 41 i1 (.agg #[.string ⟨#[]⟩, .slice none 0 0, .slice none 0 0]) 64 Tryz.underlying34 hi1 hy0 hy1 hy2 rfl (by decide) _ _ [] mrows rfl rfl (own_empty wq _ 3) HSR2.out (mCells_one HMREAD.out) (by rw [HMR.out]; unfold maxLen; simp; omega) (by rw [HMR.out]; simp; omega) (by simp) ?_
                   intro v10 w10 ho10 hg10
                   rw [List.nil_append] at ho10
                   have HO10 := Lib.hid ho10
                   have HB10 : Hid (Below wq.heap.size wq w10) := Lib.hid ((below_box wq (.cells #[] 41)).grown hg10 (by simp) fun q hq => by cases hq; exact Nat.le_refl _)
                   have HL10 := Lib.hid (SrcAt.lit (f := mCells) w10 (⟨nm, [], []⟩, .slice none 0 0, .slice none 0 0) 41 #[.string nm, .slice none 0 0, .slice none 0 0] rfl 1)
                   clear ho10 hg10 c63 hbC))
              go_loopg [81] (MN + 1) (fun g s81 wz => ∃ t : Nat, s81 = .int .i64 t ∧ t ≤ MN + 1 ∧ g = MN + 1 - t ∧ Hid (Below w11.heap.size w11 wz))
              case atStart => exact ⟨0, rfl, Nat.zero_le _, rfl, Lib.hid (Below.refl _ _)⟩
              case round =>
                obtain ⟨t, rfl, ht, rfl, HZ⟩ := hrel
                have HQZ := Lib.hid (below_next HB11.out HZ.out)
                by_cases htl : t < MN + 1
                · obtain ⟨y, hy⟩ : ∃ y, ML[t]? = some y := ⟨_, List.getElem?_eq_getElem (by rw [HMLN.out]; exact htl)⟩
                  obtain ⟨bm, om, b1, b2, rfl, _, hcm, _, hsp, hsb⟩ := (HS11.out.keep HZ.out).get hy
                  obtain ⟨y0, y1, y2⟩ := hcm
                  obtain ⟨pp, cp, rfl⟩ := hsp.form
                  obtain ⟨pb, cb, rfl, _⟩ := hsb.form
                  obtain ⟨PN, hPN⟩ : ∃ q, y.params.length = q := ⟨_, rfl⟩
                  obtain ⟨BN, hBN⟩ : ∃ q, y.body.length = q := ⟨_, rfl⟩
                  rw [hPN] at y1
                  rw [hBN] at y2
                  obtain ⟨wz, hwz⟩ : ∃ q, q = wr := ⟨_, rfl⟩
                  rw [← hwz] at HZ HQZ y0 y1 y2 ⊢
                  have hby := below_box wz (.cells #[.string y.name, .slice pp PN cp, .slice pb BN cb] 41)
                  have z0 := box_cell wz #[.string y.name, .slice pp PN cp, .slice pb BN cb] 41 0 _ rfl
                  have hzq := below_next HQ.out (below_next HQZ.out hby)
                  have u0 := cell_keep' hzq C60.out
                  have u1 := cell_keep' hzq C61.out
                  have u2 := cell_keep' hzq C62.out
                  have u3 := cell_keep' hzq C63.out
                  obtain ⟨w6, hw6⟩ : ∃ q, q = wz.alloc (.cells #[.string y.name, .slice pp PN cp, .slice pb BN cb] 41) := ⟨_, rfl⟩
                  obtain ⟨by_, hby_⟩ : ∃ q, wz.heap.size = q := ⟨_, rfl⟩
                  rw [← hw6] at u0 u1 u2 u3 z0 hby hzq
                  rw [hby_] at z0
                  have HW6 := Lib.hid hw6
                  have HBY := Lib.hid hby_
                  have H6 := Lib.hid (below_next HZ.out hby)
                  have HR6 := Lib.hid (below_next HBX3.out hzq)
                  have K1 := Lib.hid (fun W hb => KM.out W y.name hb)
                  have K2 := Lib.hid (fun W hb => KN.out W y.name hb)
                  obtain ⟨ci, hci⟩ : ∃ q, (Ck.methodAt x.methods y.name).getD 0 = q := ⟨_, rfl⟩
                  obtain ⟨co, hco⟩ : ∃ q, (Ck.methodAt x.methods y.name).isSome = q := ⟨_, rfl⟩
                  simp only [hci, hco] at K1 K2
                  have e1 : ((ci : Int) != (ci : Int)) = false := by simp
                  have e2 : (co != co) = false := by simp
                  have b3t : (t : Int) < (MN : Int) + 1 := by omega
                  clear hci hco hy hsp hsb hPN hBN hwz hw6 hby_ hby hzq
                  go_upto_region 17 with fail
                  rw [← HW6.out, HBY.out]
                  clear y0 y1 y2
                  go_wp2_with fail
                  refine (K1.out _ HR6.out).mono ?_
                  rintro e w7' ⟨rfl, hb7⟩
                  have u0' := cell_keep' hb7 u0
                  have u1' := cell_keep' hb7 u1
                  have u2' := cell_keep' hb7 u2
                  have u3' := cell_keep' hb7 u3
                  have z0' := cell_keep' hb7 z0
                  have HR7 := Lib.hid (below_next HR6.out hb7)
                  have H7 := Lib.hid (below_next H6.out hb7)
                  clear u0 u1 u2 u3 z0 hb7
                  go_wp2_with fail
                  refine (K2.out _ HR7.out).mono ?_
                  rintro e w8' ⟨rfl, hb8⟩
                  have H8 := Lib.hid (below_next H7.out hb8)
                  clear u0' u1' u2' u3' z0' hb8
                  go_wp2_with fail
                  go_roundg (MN + 1 - (t + 1))
                  case measure => omega
                  case rel => exact ⟨t + 1, by go_num, by omega, rfl, H8⟩
                · have HF := Lib.hid (below_next HBR.out (below_next HBRQ.out HQZ.out))
                  go_wp2_with fail
                  go_roundg (CN + 1 - (j + 1))
                  case measure => omega
                  case rel => exact ⟨j + 1, by go_num, by omega, rfl, HF⟩
        · have hBF := hBR
          go_wp2_with fail
          refine (KA.out _ hBF.out).mono ?_
          rintro e w9 ⟨rfl, hb9⟩
          go_wp2_with fail
          go_ret
          exact ⟨rfl, below_next hBF.out hb9⟩
end Go.Proofs.YtdafdbjdnebnfaaGreatDoor
