/-
  CheckerGrows, walked.
-/
import Derived.Test.YtdafdbjdnebnfaaGreatDoorCkLawFinds
import Derived.Test.YtdafdbjdnebnfaaGreatDoorCkA
import Derived.Test.YtdafdbjdnebnfaaGreatDoorTrName
namespace Go.Proofs.YtdafdbjdnebnfaaGreatDoor
open Go.RowKit Go.Maps

theorem Ck.cnt_app : ∀ (a b : List Tr.C), Ck.cnt (a ++ b) = Ck.cnt a + Ck.cnt b
  | [], b => by simp [Ck.cnt]
  | x :: r, b => by rw [List.cons_append, Ck.cnt, Ck.cnt, Ck.cnt_app r b]; omega
theorem Ck.cnt_300 {cs : List Tr.C} (h : Tr.fewP cs 300 = true) : Ck.cnt cs ≤ 300 := by
  have h0 : 0 ≤ Tr.leftCs cs 300 := of_decide_eq_true h
  have := (Ck.smallCs_of cs 300 h0 (by decide)).2
  omega
theorem cls_size {nm : ByteArray} (h : Tr.clsB nm = true) : nm.size ≤ 40 := by
  unfold Tr.clsB Tr.clsL Tr.nameL at h
  rw [Bool.and_eq_true, Bool.and_eq_true] at h
  have := (of_decide_eq_true h.1.1).2.1
  have e : nm.data.toList.length = nm.size := rfl
  omega
theorem Ck.small_grow {cs : List Tr.C} (h : Ck.Small cs) (hc : Ck.cnt cs ≤ 300) {nm : ByteArray} (act : Bool) (hn : nm.size ≤ 40) : Ck.Small (cs ++ [⟨nm, act, [], []⟩]) := by
  refine ⟨fun c hc => ?_, ?_⟩
  · rcases List.mem_append.1 hc with hc | hc
    · exact h.all c hc
    · obtain rfl := List.mem_singleton.1 hc
      exact ⟨hn, Nat.zero_le _, Nat.zero_le _, fun m hm => absurd hm (by simp)⟩
  · rw [Ck.cnt_app]; simp [Ck.cnt]; omega
theorem Tr.fit_grow {cs : List Tr.C} (h : Tr.fitP cs) (nm : ByteArray) (act : Bool) : Tr.fitP (cs ++ [⟨nm, act, [], []⟩]) := by
  intro c hc
  rcases List.mem_append.1 hc with hc | hc
  · exact h c hc
  · obtain rfl := List.mem_singleton.1 hc
    intro m hm
    exact absurd hm (by simp)
theorem Ck.check_grow {cs : List Tr.C} (h : Ck.check cs = []) {nm : ByteArray} (act : Bool) (hc : Tr.clsB nm = true) (hw : (nm.toList == [87, 101, 97, 107]) = false) (hl : cs.length < 60) (hno : Ck.classAt cs nm = none) : Ck.check (cs ++ [⟨nm, act, [], []⟩]) = [] := by
  rw [Ck.check_nil] at h ⊢
  refine ⟨Ck.valid_app h.1 (by unfold Tr.validC; simp [hc]), Ck.grows h.2 nm act ?_ hl hno⟩
  rintro rfl
  have e : (⟨#[87, 101, 97, 107]⟩ : ByteArray).toList = [87, 101, 97, 107] := by first | rfl | simp | decide +kernel
  rw [show Ck.weak = ⟨#[87, 101, 97, 107]⟩ from rfl, e] at hw
  exact absurd hw (by decide)
theorem isSome_false {α : Type} {o : Option α} (h : o.isSome = false) : o = none := by cases o with | none => rfl | some _ => cases h

set_option maxRecDepth 100000 in
set_option maxHeartbeats 20000000 in
theorem law_grows (nm : ByteArray) (hnm : nm.size ≤ maxLen) (act : Bool) (v : Value) (cs : List Tr.C) (w : World) (hE : CkEnv w) (h : SlC w v cs) :
    Calls Tryz.prog 6 #[.agg #[v], .string nm, .bool act] w fun e w' => e = .returned (.bool true) ∧ Below w.heap.size w w' := by
  obtain ⟨i0, hi0, hz0, hz1, hz2⟩ := info_parts classInfo
  have HE := Lib.hid hE
  have HS := Lib.hid h
  obtain ⟨rows, hrows, hread, hsrc⟩ := h.rows
  obtain ⟨pv, cpv, rfl⟩ := h.form
  obtain ⟨CN, hCN⟩ : ∃ q, cs.length = q := ⟨_, rfl⟩
  rw [hCN] at HS hsrc ⊢
  have hRN : rows.length = CN := by rw [← hCN, ← hrows, List.length_map]
  have hbx := below_box w (.cells #[.slice pv CN cpv] 24)
  have hbx2 := below_box (w.alloc (.cells #[.slice pv CN cpv] 24)) (.cells #[.slice pv CN cpv] 24)
  have hB2 := Lib.hid (below_next hbx hbx2)
  have hg := box_cell (w.alloc (.cells #[.slice pv CN cpv] 24)) #[.slice pv CN cpv] 24 0 _ rfl
  have c0 := cell_keep' hbx2 (box_cell w #[.slice pv CN cpv] 24 0 _ rfl)
  simp only [World.size_alloc] at hg
  have KF := Lib.hid (lawFew_any _ cs _ _ 1 hg (HS.out.keep hB2.out))
  have KA : Hid (∀ W, Below w.heap.size w W → Calls Tryz.prog 14 #[] W fun e w' => e = .returned (.bool true) ∧ Below W.heap.size W w') := fun W hb => awake40_any W (HE.out.keep hb)
  have KR : Hid (∀ W s, Below w.heap.size w W → Calls Tryz.prog 19 #[.agg #[.slice pv CN cpv], .string s] W fun e w' => e = .returned (.tuple #[.int .i64 ((Ck.classAt cs s).getD 0 : Nat), .bool (Ck.classAt cs s).isSome]) ∧ Below W.heap.size W w') := fun W s hb => refClass_any s cs _ W (HS.out.keep hb)
  have KV : Hid (∀ W, Calls Tryz.prog 22 #[.string nm] W fun e w' => e = .returned (.bool (Tr.clsB nm)) ∧ Below W.heap.size W w') := fun W => className_any nm W hnm
  have C0 := Lib.hid c0
  have HSRC := Lib.hid hsrc
  have HREAD := Lib.hid hread
  have HROWS := Lib.hid hrows
  have HRN := Lib.hid hRN
  have HCN := Lib.hid hCN
  clear hE h hCN hbx hbx2 hg c0 hsrc hread hrows hRN
  cases hq : Tr.fewP cs 300
  · rw [hq] at KF
    clear hq
    go_enter Tryz.func6, Tryz.ntmps6
    go_wp2_with fail
    refine KF.out.mono ?_
    rintro e w2 ⟨rfl, hb2⟩
    have hB3 := Lib.hid (below_next hB2.out hb2)
    have C3 := Lib.hid (cell_keep' hb2 C0.out)
    have c3 := C3.out
    clear hb2
    clear c3
    go_wp2_with fail
    refine (KA.out _ hB3.out).mono ?_
    rintro e w9 ⟨rfl, hb9⟩
    go_wp2_with fail
    go_ret
    exact ⟨rfl, below_next hB3.out hb9⟩
  · have hsm := Ck.small_of hq (by decide)
    have hcnt := Ck.cnt_300 hq
    have hfit := Tr.fitP_of hq (by decide)
    rw [hq] at KF
    have hcl := Nat.le_trans (len_cnt cs) hsm.cnt
    rw [HCN.out] at hcl
    have HSM := Lib.hid hsm
    have HFIT := Lib.hid hfit
    have HCNT := Lib.hid hcnt
    have KC : Hid (∀ W, Below w.heap.size w W → Calls Tryz.prog 12 #[.agg #[.slice pv CN cpv]] W (CheckPost cs W)) := fun W hb => check_any _ cs W (HE.out.keep hb) (HS.out.keep hb) hsm hfit
    obtain ⟨LR, hlr⟩ : ∃ q, (Ck.check cs).length = q := ⟨_, rfl⟩
    have hlr := Lib.hid hlr
    clear hq hsm hfit hcnt
    by_cases hbad : 0 < LR
    · go_enter Tryz.func6, Tryz.ntmps6
      go_wp2_with fail
      refine KF.out.mono ?_
      rintro e w2 ⟨rfl, hb2⟩
      have hB3 := Lib.hid (below_next hB2.out hb2)
      have C3 := Lib.hid (cell_keep' hb2 C0.out)
      have c3 := C3.out
      clear hb2
      go_wp2_with fail
      refine (KC.out _ hB3.out).mono ?_
      rintro e w3 ⟨lv, rfl, ho3, hb3⟩
      rw [hlr.out] at ho3
      obtain ⟨pl, cl, rfl⟩ := own_form ho3
      have hB4 := Lib.hid (below_next hB3.out hb3)
      have C4 := Lib.hid (cell_keep' hb3 C3.out)
      have c4 := C4.out
      clear hb3 ho3 c3
      clear c4
      go_wp2_with fail
      refine (KA.out _ hB4.out).mono ?_
      rintro e w9 ⟨rfl, hb9⟩
      go_wp2_with fail
      go_ret
      exact ⟨rfl, below_next hB4.out hb9⟩
    · obtain rfl : LR = 0 := by omega
      cases hcn : Tr.clsB nm
      · rw [hcn] at KV
        clear hcn
        go_enter Tryz.func6, Tryz.ntmps6
        go_wp2_with fail
        refine KF.out.mono ?_
        rintro e w2 ⟨rfl, hb2⟩
        have hB3 := Lib.hid (below_next hB2.out hb2)
        have C3 := Lib.hid (cell_keep' hb2 C0.out)
        have c3 := C3.out
        clear hb2
        go_wp2_with fail
        refine (KC.out _ hB3.out).mono ?_
        rintro e w3 ⟨lv, rfl, ho3, hb3⟩
        rw [hlr.out] at ho3
        obtain ⟨pl, cl, rfl⟩ := own_form ho3
        have hB4 := Lib.hid (below_next hB3.out hb3)
        have C4 := Lib.hid (cell_keep' hb3 C3.out)
        have c4 := C4.out
        clear hb3 ho3 c3
        go_wp2_with fail
        refine (KV.out _).mono ?_
        rintro e w4 ⟨rfl, hb4⟩
        have hB5 := Lib.hid (below_next hB4.out hb4)
        have C5 := Lib.hid (cell_keep' hb4 C4.out)
        have c5 := C5.out
        clear hb4 c4
        clear c5
        go_wp2_with fail
        refine (KA.out _ hB5.out).mono ?_
        rintro e w9 ⟨rfl, hb9⟩
        go_wp2_with fail
        go_ret
        exact ⟨rfl, below_next hB5.out hb9⟩
      · rw [hcn] at KV
        have HCN2 := Lib.hid hcn
        clear hcn
        cases hwk : (nm.toList == [87, 101, 97, 107])
        · by_cases hsix : 60 ≤ CN
          · go_enter Tryz.func6, Tryz.ntmps6
            go_wp2_with fail
            refine KF.out.mono ?_
            rintro e w2 ⟨rfl, hb2⟩
            have hB3 := Lib.hid (below_next hB2.out hb2)
            have C3 := Lib.hid (cell_keep' hb2 C0.out)
            have c3 := C3.out
            clear hb2
            go_wp2_with fail
            refine (KC.out _ hB3.out).mono ?_
            rintro e w3 ⟨lv, rfl, ho3, hb3⟩
            rw [hlr.out] at ho3
            obtain ⟨pl, cl, rfl⟩ := own_form ho3
            have hB4 := Lib.hid (below_next hB3.out hb3)
            have C4 := Lib.hid (cell_keep' hb3 C3.out)
            have c4 := C4.out
            clear hb3 ho3 c3
            go_wp2_with fail
            refine (KV.out _).mono ?_
            rintro e w4 ⟨rfl, hb4⟩
            have hB5 := Lib.hid (below_next hB4.out hb4)
            have C5 := Lib.hid (cell_keep' hb4 C4.out)
            have c5 := C5.out
            clear hb4 c4
            go_wp2_with fail
            refine (KA.out _ hB5.out).mono ?_
            rintro e w9 ⟨rfl, hb9⟩
            go_wp2_with fail
            go_ret
            exact ⟨rfl, below_next hB5.out hb9⟩
          · cases hso : (Ck.classAt cs nm).isSome
            · have hno := Lib.hid (isSome_false hso)
              have HWK := Lib.hid hwk
              have KR1 := Lib.hid (fun W hb => KR.out W nm hb)
              simp only [hno.out, Option.isSome_none, Option.getD_none] at KR1
              have hck : Hid (Ck.check (cs ++ [⟨nm, act, [], []⟩]) = []) := Ck.check_grow (List.eq_nil_of_length_eq_zero hlr.out) act HCN2.out hwk (by rw [HCN.out]; omega) hno.out
              have HSM9 := Lib.hid (Ck.small_grow HSM.out HCNT.out act (cls_size HCN2.out))
              have HFT9 := Lib.hid (Tr.fit_grow HFIT.out nm act)
              clear hso
              skip
              go_enter Tryz.func6, Tryz.ntmps6
              go_wp2_with fail
              refine KF.out.mono ?_
              rintro e w2 ⟨rfl, hb2⟩
              have hB3 := Lib.hid (below_next hB2.out hb2)
              have C3 := Lib.hid (cell_keep' hb2 C0.out)
              have c3 := C3.out
              clear hb2
              go_wp2_with fail
              refine (KC.out _ hB3.out).mono ?_
              rintro e w3 ⟨lv, rfl, ho3, hb3⟩
              rw [hlr.out] at ho3
              obtain ⟨pl, cl, rfl⟩ := own_form ho3
              have hB4 := Lib.hid (below_next hB3.out hb3)
              have C4 := Lib.hid (cell_keep' hb3 C3.out)
              have c4 := C4.out
              clear hb3 ho3 c3
              go_wp2_with fail
              refine (KV.out _).mono ?_
              rintro e w4 ⟨rfl, hb4⟩
              have hB5 := Lib.hid (below_next hB4.out hb4)
              have C5 := Lib.hid (cell_keep' hb4 C4.out)
              have c5 := C5.out
              clear hb4 c4
              go_wp2_with fail
              refine (KR1.out _ hB5.out).mono ?_
              rintro e w5 ⟨rfl, hb5⟩
              have hB6 := Lib.hid (below_next hB5.out hb5)
              have C6 := Lib.hid (cell_keep' hb5 C5.out)
              have c6 := C6.out
              clear hb5 c5
              have hbe := below_box w5 (.cells #[] 36)
              have hgl := cell_lt' c6
              have HSR2 := Lib.hid ((HSRC.out.keep hB6.out).keep hbe)
              have hbC := cell_keep' hbe c6
              go_wp2_with (at_builtin; first
                | (refine wpList_append_src cCells 4 cCells_len rfl _ _ 22 rfl w5.heap.size 36 i0 (.agg #[.string ⟨#[]⟩, .bool false, .slice none 0 0, .slice none 0 0]) 72 Tryz.underlying22 hi0 hz0 hz1 hz2 rfl (by decide) _ _ rows [(⟨nm, act, [], []⟩, .slice none 0 0, .slice none 0 0)] rfl rfl (HO7.out.alloc _) HL7.out (bareC_one nm act) (by rw [HRN.out]; unfold maxLen; simp; omega) (by rw [HRN.out]; simp; omega) (by have := HB7.out.size; simp <;> omega) ?_
                   intro v8 w8 ho8 hg8
                   have HO8 := Lib.hid ho8
                   have HB8 : Hid (Below w5.heap.size w5 w8) := Lib.hid ((HB7.out.alloc HB7.out.size _).grown hg8 (by have := HB7.out.size; simp <;> omega) fun q hq => (own_ge HO7.out hq).1)
                   clear ho8 hg8
                   have HRD8 : Hid (∀ x ∈ rows ++ [((⟨nm, act, [], []⟩ : Tr.C), (.slice none 0 0 : Value), (.slice none 0 0 : Value))], ReadC w8 x.1 x.2.1 x.2.2) := by
                     intro x hx
                     rcases List.mem_append.1 hx with hx | hx
                     · exact (HREAD.out x hx).keep (below_next hB6.out HB8.out)
                     · obtain rfl := List.mem_singleton.1 hx
                       exact readC_bare _ _ _ hnm
                   have hs8 := slC_own HO8.out HRD8.out
                   rw [List.map_append, HROWS.out] at hs8
                   change SlC w8 v8 (cs ++ [⟨nm, act, [], []⟩]) at hs8
                   obtain ⟨L, hL⟩ : ∃ q, cs ++ [(⟨nm, act, [], []⟩ : Tr.C)] = q := ⟨_, rfl⟩
                   have hlen : L.length = CN + 1 := by rw [← hL, List.length_append, HCN.out]; rfl
                   rw [hL] at hs8
                   obtain ⟨p8, k8, rfl⟩ := hs8.form
                   rw [hlen] at hs8
                   have hlen8 : (rows ++ [((⟨nm, act, [], []⟩ : Tr.C), (.slice none 0 0 : Value), (.slice none 0 0 : Value))]).length = CN + 1 := by rw [List.length_append, HRN.out]; rfl
                   have hB9 := Lib.hid (below_next hB6.out HB8.out)
                   have C9 := Lib.hid (cell_keep' HB8.out (cell_keep' (Below.refl _ _) C6.out))
                   have HS8 := Lib.hid hs8
                   have HL := Lib.hid hlen
                   have HLL := Lib.hid hL
                   rw [HL.out]
                   clear HO7 HL7 HB7 HO8 HRD8 hs8 hlen8 hL hlen)
                | (refine wpList_append_src cCells 4 cCells_len rfl _ _ 22 rfl w5.heap.size 36 i0 (.agg #[.string ⟨#[]⟩, .bool false, .slice none 0 0, .slice none 0 0]) 72 Tryz.underlying22 hi0 hz0 hz1 hz2 rfl (by decide) _ _ [] rows rfl rfl (own_empty w5 _ 4) HSR2.out (cCells_one HREAD.out) (by rw [HRN.out]; unfold maxLen; simp; omega) (by rw [HRN.out]; simp; omega) (by simp) ?_
                   intro v7 w7 ho7 hg7
                   rw [List.nil_append] at ho7
                   have HO7 := Lib.hid ho7
                   have HB7 : Hid (Below w5.heap.size w5 w7) := Lib.hid ((below_box w5 (.cells #[] 36)).grown hg7 (by simp) fun q hq => by cases hq; exact Nat.le_refl _)
                   have HL7 := Lib.hid (SrcAt.lit (f := cCells) w7 (⟨nm, act, [], []⟩, .slice none 0 0, .slice none 0 0) 36 #[.string nm, .bool act, .slice none 0 0, .slice none 0 0] rfl 1)
                   clear ho7 hg7 c6 hgl hbC hbe))
              go_wp2_with fail
              rw [HLL.out] at hck HSM9 HFT9
              have hbx9 := below_box w8 (.cells #[.slice p8 (CN + 1) k8] 24)
              have HB9 := Lib.hid (below_next hB9.out hbx9)
              have c9 := box_cell w8 #[.slice p8 (CN + 1) k8] 24 0 _ rfl
              have KQ := Lib.hid (check_any _ L _ (HE.out.keep HB9.out) (HS8.out.keep hbx9) HSM9.out HFT9.out)
              obtain ⟨w9, hw9⟩ : ∃ q, q = w8.alloc (.cells #[.slice p8 (CN + 1) k8] 24) := ⟨_, rfl⟩
              rw [← hw9] at KQ HB9
              have HW9 := Lib.hid hw9
              clear hw9 hbx9
              go_wp2_with fail
              rw [← HW9.out]
              refine KQ.out.mono ?_
              rintro e w10 ⟨lv2, rfl, ho10, hb10⟩
              rw [hck.out] at ho10
              obtain ⟨pl2, cl2, rfl⟩ := own_form ho10
              have hB10 := Lib.hid (below_next HB9.out hb10)
              clear ho10 hb10 c9
              go_wp2_with fail
              refine (KA.out _ hB10.out).mono ?_
              rintro e w9 ⟨rfl, hb9⟩
              go_wp2_with fail
              go_ret
              exact ⟨rfl, below_next hB10.out hb9⟩
            · obtain ⟨gi, hgi⟩ : ∃ q, (Ck.classAt cs nm).getD 0 = q := ⟨_, rfl⟩
              have KR1 := Lib.hid (fun W hb => KR.out W nm hb)
              simp only [hso, hgi] at KR1
              clear hso hgi
              go_enter Tryz.func6, Tryz.ntmps6
              go_wp2_with fail
              refine KF.out.mono ?_
              rintro e w2 ⟨rfl, hb2⟩
              have hB3 := Lib.hid (below_next hB2.out hb2)
              have C3 := Lib.hid (cell_keep' hb2 C0.out)
              have c3 := C3.out
              clear hb2
              go_wp2_with fail
              refine (KC.out _ hB3.out).mono ?_
              rintro e w3 ⟨lv, rfl, ho3, hb3⟩
              rw [hlr.out] at ho3
              obtain ⟨pl, cl, rfl⟩ := own_form ho3
              have hB4 := Lib.hid (below_next hB3.out hb3)
              have C4 := Lib.hid (cell_keep' hb3 C3.out)
              have c4 := C4.out
              clear hb3 ho3 c3
              go_wp2_with fail
              refine (KV.out _).mono ?_
              rintro e w4 ⟨rfl, hb4⟩
              have hB5 := Lib.hid (below_next hB4.out hb4)
              have C5 := Lib.hid (cell_keep' hb4 C4.out)
              have c5 := C5.out
              clear hb4 c4
              go_wp2_with fail
              refine (KR1.out _ hB5.out).mono ?_
              rintro e w5 ⟨rfl, hb5⟩
              have hB6 := Lib.hid (below_next hB5.out hb5)
              have C6 := Lib.hid (cell_keep' hb5 C5.out)
              have c6 := C6.out
              clear hb5 c5
              clear c6
              go_wp2_with fail
              refine (KA.out _ hB6.out).mono ?_
              rintro e w9 ⟨rfl, hb9⟩
              go_wp2_with fail
              go_ret
              exact ⟨rfl, below_next hB6.out hb9⟩
        · go_enter Tryz.func6, Tryz.ntmps6
          go_wp2_with fail
          refine KF.out.mono ?_
          rintro e w2 ⟨rfl, hb2⟩
          have hB3 := Lib.hid (below_next hB2.out hb2)
          have C3 := Lib.hid (cell_keep' hb2 C0.out)
          have c3 := C3.out
          clear hb2
          go_wp2_with fail
          refine (KC.out _ hB3.out).mono ?_
          rintro e w3 ⟨lv, rfl, ho3, hb3⟩
          rw [hlr.out] at ho3
          obtain ⟨pl, cl, rfl⟩ := own_form ho3
          have hB4 := Lib.hid (below_next hB3.out hb3)
          have C4 := Lib.hid (cell_keep' hb3 C3.out)
          have c4 := C4.out
          clear hb3 ho3 c3
          go_wp2_with fail
          refine (KV.out _).mono ?_
          rintro e w4 ⟨rfl, hb4⟩
          have hB5 := Lib.hid (below_next hB4.out hb4)
          have C5 := Lib.hid (cell_keep' hb4 C4.out)
          have c5 := C5.out
          clear hb4 c4
          clear c5
          go_wp2_with fail
          refine (KA.out _ hB5.out).mono ?_
          rintro e w9 ⟨rfl, hb9⟩
          go_wp2_with fail
          go_ret
          exact ⟨rfl, below_next hB5.out hb9⟩
end Go.Proofs.YtdafdbjdnebnfaaGreatDoor
