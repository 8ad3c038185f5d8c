/-
  The reference's text of a program, walked.
-/
import Derived.Test.YtlgfickhkejdjaaGreatDoorMSyRefSt
import Derived.Test.YtlgfickhkejdjaaGreatDoorMTrValR3
namespace Go.Proofs.YtlgfickhkejdjaaGreatDoor
open Go.RowKit Go.Maps

theorem lineK (d : Nat) (hd : d ≤ 1000) (s : ByteArray) (t : List UInt8) (hs : s.size ≤ 4000000000) (ht : s.data.toList = t) : Hid (∀ W, Calls Tryz.prog 59 #[.int .i64 d, .string s] W fun r w' => r = .returned (.string ⟨(Sy.line d t).toArray⟩) ∧ Below W.heap.size W w') :=
  fun W => by rw [← ht]; exact refLine_any d s W (by omega) hs
theorem lineK0 (s : ByteArray) (t : List UInt8) (hs : s.size ≤ 4000000000) (ht : s.data.toList = t) : Hid (∀ W, Calls Tryz.prog 59 #[.int .i64 0, .string s] W fun r w' => r = .returned (.string ⟨(Sy.line 0 t).toArray⟩) ∧ Below W.heap.size W w') := lineK 0 (by omega) s t hs ht
theorem lineK1 (s : ByteArray) (t : List UInt8) (hs : s.size ≤ 4000000000) (ht : s.data.toList = t) : Hid (∀ W, Calls Tryz.prog 59 #[.int .i64 1, .string s] W fun r w' => r = .returned (.string ⟨(Sy.line 1 t).toArray⟩) ∧ Below W.heap.size W w') := lineK 1 (by omega) s t hs ht

set_option maxRecDepth 100000 in
set_option maxHeartbeats 20000000 in
theorem refProgram_any (v : Value) (cs : List Tr.C) (w : World) (hS : SlC w v cs) (hd : ∀ c ∈ cs, ∀ m ∈ c.methods, Tr.S.deep.deeps m.body ≤ 900000 ∧ m.params.length ≤ 1000000) (hl : (Sy.progT cs).length ≤ 1000000000) :
    Calls Tryz.prog 23 #[.agg #[v]] w fun r w' => r = .returned (.string ⟨(Sy.programText cs).toArray⟩) ∧ Below w.heap.size w w' := by
  obtain ⟨p, c, rfl⟩ := hS.form
  have hn6 : cs.length ≤ 9223372036854775807 := by
    have := hS.len
    unfold maxLen at this
    exact this
  obtain ⟨N, hN⟩ : ∃ q, cs.length = q := ⟨_, rfl⟩
  rw [hN] at hS hn6 ⊢
  have hB := below_box w (.cells #[.slice p N c] 32)
  have hcv := (MapKept.heap_alloc w (.cells #[.slice p N c] 32)).1
  obtain ⟨w1, hw1⟩ : ∃ q, q = w.alloc (.cells #[.slice p N c] 32) := ⟨_, rfl⟩
  obtain ⟨BX, hBX⟩ : ∃ q, w.heap.size = q := ⟨_, rfl⟩
  rw [← hw1] at hB hcv
  have KV := Lib.hid (validR_any (.slice p N c) cs w1 (hS.keep hB))
  have e0 := cell_of_blkP hcv (j := 0) (u := .slice p N c) rfl
  rw [hBX] at e0
  have HW1 := Lib.hid hw1
  have HBX := Lib.hid hBX
  have HB1 := Lib.hid hB
  have HS := Lib.hid hS
  have HN := Lib.hid hN
  have HL := Lib.hid hl
  have HD := Lib.hid hd
  clear hS hl hN hw1 hB hcv hd hBX
  cases hv : Tr.validP cs
  · rw [hv] at KV
    have HV := Lib.hid hv
    clear hv
    go_enter Tryz.func23, Tryz.ntmps23
    go_upto_region 1 with fail
    rw [← HW1.out, HBX.out]
    clear HW1
    go_wp2_with fail
    refine KV.out.mono ?_
    rintro e' w2 ⟨rfl, hb2⟩
    have HB2 := Lib.hid (below_next HB1.out hb2)
    clear hb2 e0
    go_wp2_with fail
    go_ret
    exact ⟨by unfold Sy.programText; rw [HV.out]; rfl, HB2.out⟩
  · rw [hv] at KV
    have HV := Lib.hid hv
    clear hv
    go_enter Tryz.func23, Tryz.ntmps23
    go_upto_region 1 with fail
    rw [← HW1.out, HBX.out]
    clear HW1
    go_wp2_with fail
    refine KV.out.mono ?_
    rintro e' w2 ⟨rfl, hb2⟩
    have HB2 := Lib.hid (below_next HB1.out hb2)
    have HE0 : Hid (∀ W, Below w2.heap.size w2 W → W.cell? ⟨BX, 0, none⟩ = some (.slice p N c)) := fun W hb => cell_keep' hb (cell_keep' hb2 e0)
    have HS2 := Lib.hid (HS.out.keep HB2.out)
    clear hb2 e0
    go_wp2_with fail
    go_loopg [3, 4, 5, 6, 7, 8, 9, 10, 11] N (fun g s3 s4 s5 s6 s7 s8 s9 s10 s11 wr => ∃ j : Nat, s4 = .int .i64 j ∧ j ≤ N ∧ g = N - j ∧ s3 = .string ⟨((cs.take j).map Sy.classT).flatten.toArray⟩ ∧ Hid (Below w2.heap.size w2 wr))
    case atStart => exact ⟨0, rfl, Nat.zero_le _, rfl, rfl, Lib.hid (Below.refl _ _)⟩
    case round =>
      obtain ⟨j, rfl, hj, rfl, rfl, HB⟩ := hrel
      have e0 := HE0.out wr HB.out
      have hl0 := cell_lt' e0
      by_cases hlt : j < N
      · obtain ⟨s, hs⟩ : ∃ s, cs[j]? = some s := ⟨_, List.getElem?_eq_getElem (by rw [HN.out]; exact hlt)⟩
        obtain ⟨b', o', vx, vy, rfl, _, hc, _, hfx, hmx⟩ := HS2.out.get hs
        obtain ⟨fp, fc, rfl⟩ := hfx.form
        obtain ⟨mp, mc, rfl⟩ := hmx.form
        have hss := List.mem_of_getElem? hs
        have hbod := validP_bodies HV.out s hss
        have hdeep := HD.out s hss
        have htk := fl_take Sy.classT hs
        have hle := fl_le Sy.classT cs (j + 1)
        rw [htk, List.length_append] at hle
        have hLL := HL.out
        unfold Sy.progT at hLL
        obtain ⟨cnm, act, flds, mths⟩ := s
        have hfx : SlStr w2 (.slice fp flds.length fc) flds := hfx
        have hmx : SlM w2 (.slice mp mths.length mc) mths := hmx
        have hc : CellsC w2 b' (o' + j * 4) ⟨cnm, act, flds, mths⟩ (.slice fp flds.length fc) (.slice mp mths.length mc) := hc
        obtain ⟨FN, hFN⟩ : ∃ q, flds.length = q := ⟨_, rfl⟩
        obtain ⟨MN, hMN⟩ : ∃ q, mths.length = q := ⟨_, rfl⟩
        rw [hFN] at hfx hc
        rw [hMN] at hmx hc
        have hfn6 : FN ≤ 9223372036854775807 := by have := hfx.len; rw [hFN] at this; unfold maxLen at this; exact this
        have hmn6 : MN ≤ 9223372036854775807 := by have := hmx.len; rw [hMN] at this; unfold maxLen at this; exact this
        obtain ⟨x0, x1, x2, x3⟩ := hc
        have x0 := cell_keep' HB.out x0
        have x1 := cell_keep' HB.out x1
        have x2 := cell_keep' HB.out x2
        have x3 := cell_keep' HB.out x3
        simp only [] at x0 x1
        have hcT : Sy.classT ⟨cnm, act, flds, mths⟩ = Sy.line 0 ((if act then [97, 99, 116, 111, 114, 32] else [114, 101, 99, 111, 114, 100, 32]) ++ cnm.data.toList ++ [32, 123]) ++ (flds.map Sy.fieldT).flatten ++ (mths.map Sy.methodT).flatten ++ Sy.line 0 [125] := rfl
        rw [hcT] at htk hle
        obtain ⟨W0, hW0⟩ : ∃ q : ByteArray, (if act then ⟨#[97, 99, 116, 111, 114, 32]⟩ else ⟨#[114, 101, 99, 111, 114, 100, 32]⟩) = q := ⟨_, rfl⟩
        have hW0l : W0.data.toList = (if act then [97, 99, 116, 111, 114, 32] else [114, 101, 99, 111, 114, 100, 32]) := by rw [← hW0]; cases act <;> rfl
        have hW0s : W0.size ≤ 7 := by rw [← hW0]; cases act <;> decide
        obtain ⟨P, hP⟩ : ∃ q, ((cs.take j).map Sy.classT).flatten = q := ⟨_, rfl⟩
        obtain ⟨HD0, hHD0⟩ : ∃ q, Sy.line 0 ((if act then [97, 99, 116, 111, 114, 32] else [114, 101, 99, 111, 114, 100, 32]) ++ cnm.data.toList ++ [32, 123]) = q := ⟨_, rfl⟩
        have hcl : cnm.size + 3 ≤ HD0.length := by
          rw [← hHD0, Sy.line_len]
          simp only [List.length_append, List.length_cons, List.length_nil, data_len]
          omega
        rw [hHD0] at htk hle
        rw [hP] at htk hle
        have hr0 : (Sy.line 0 [125]).length = 2 := rfl
        simp only [List.length_append, hr0] at hle
        have KH0 := lineK0 (W0 ++ cnm ++ ⟨#[32, 123]⟩) ((if act then [97, 99, 116, 111, 114, 32] else [114, 101, 99, 111, 114, 100, 32]) ++ cnm.data.toList ++ [32, 123]) (by have h9 : (⟨#[32, 123]⟩ : ByteArray).size = 2 := rfl; rw [ByteArray.size_append, ByteArray.size_append, h9]; omega) (by rw [app_list, app_list, hW0l])
        rw [hHD0] at KH0
        have KR0 := lineK0 ⟨#[125]⟩ ([125]) (by decide) rfl
        have KR1 := lineK1 ⟨#[125]⟩ ([125]) (by decide) rfl
        have hr1 : (Sy.line 1 [125]).length = 4 := rfl
        obtain ⟨R0, hR0⟩ : ∃ q : ByteArray, ⟨(Sy.line 0 [125]).toArray⟩ = q := ⟨_, rfl⟩
        obtain ⟨R1, hR1⟩ : ∃ q : ByteArray, ⟨(Sy.line 1 [125]).toArray⟩ = q := ⟨_, rfl⟩
        have hR0s : R0.size = 2 := by rw [← hR0]; rfl
        have hR1s : R1.size = 4 := by rw [← hR1]; rfl
        rw [hR0] at KR0
        rw [hR1] at KR1
        obtain ⟨H0, hH0⟩ : ∃ q : ByteArray, ⟨HD0.toArray⟩ = q := ⟨_, rfl⟩
        have hH0s : H0.size = HD0.length := by rw [← hH0]; rfl
        rw [hH0] at KH0
        obtain ⟨PB, hPB⟩ : ∃ q : ByteArray, ⟨P.toArray⟩ = q := ⟨_, rfl⟩
        have hPBs : PB.size = P.length := by rw [← hPB]; rfl
        have hbx := below_box wr (.cells #[.string cnm, .bool act, .slice fp FN fc, .slice mp MN mc] 52)
        have hcx := (MapKept.heap_alloc wr (.cells #[.string cnm, .bool act, .slice fp FN fc, .slice mp MN mc] 52)).1
        obtain ⟨w4, hw4⟩ : ∃ q, q = wr.alloc (.cells #[.string cnm, .bool act, .slice fp FN fc, .slice mp MN mc] 52) := ⟨_, rfl⟩
        obtain ⟨cx, hcx0⟩ : ∃ q, wr.heap.size = q := ⟨_, rfl⟩
        rw [← hw4] at hcx hbx
        rw [hcx0] at hcx
        have HCX : Hid (∀ W, Below w4.heap.size w4 W → W.cell? ⟨cx, 0, none⟩ = some (.string cnm) ∧ W.cell? ⟨cx, 2, none⟩ = some (.slice fp FN fc) ∧ W.cell? ⟨cx, 3, none⟩ = some (.slice mp MN mc)) := fun W hb =>
          ⟨cell_keep' hb (cell_of_blkP hcx (j := 0) (u := .string cnm) rfl), cell_keep' hb (cell_of_blkP hcx (j := 2) (u := .slice fp FN fc) rfl), cell_keep' hb (cell_of_blkP hcx (j := 3) (u := .slice mp MN mc) rfl)⟩
        have z0 := cell_of_blkP hcx (j := 0) (u := .string cnm) rfl
        have z1 := cell_of_blkP hcx (j := 1) (u := .bool act) rfl
        have hB4 : Below w2.heap.size w2 w4 := below_next HB.out hbx
        have HB4 := Lib.hid hB4
        have HW4 := Lib.hid hw4
        have HCX0 := Lib.hid hcx0
        have HTK := Lib.hid htk
        have HF := Lib.hid hfx
        have HM := Lib.hid hmx
        have HFN := Lib.hid hFN
        have HMN := Lib.hid hMN
        have HBOD : Hid (∀ m ∈ mths, Tr.validSs m.body = true) := hbod
        have HDEEP : Hid (∀ m ∈ mths, Tr.S.deep.deeps m.body ≤ 900000 ∧ m.params.length ≤ 1000000) := hdeep
        have HLE : Hid (P.length + (HD0.length + ((flds.map Sy.fieldT).flatten).length + ((mths.map Sy.methodT).flatten).length + 2) ≤ 1000000000) := by show _ ≤ _; omega
        have b3 : (j : Int) < (N : Int) := by omega
        have b5 : (0 : Int) ≤ (j : Int) := by omega
        have hl1 := cell_lt' x0
        have kc1 : cnm.size ≤ 1000000000 := by omega
        have kc2 : H0.size + PB.size ≤ 1000000000 := by omega
        have HH0 := Lib.hid hH0
        have HPB := Lib.hid hPB
        have HR0 := Lib.hid hR0
        have HR1 := Lib.hid hR1
        have HPBS := Lib.hid hPBs
        have HH0S := Lib.hid hH0s
        have k1 : ¬ 9223372036854775807 < W0.size + cnm.size := by omega
        have k2 : ¬ 9223372036854775807 < W0.size + cnm.size + 2 := by omega
        have k3 : ¬ 9223372036854775807 < PB.size + H0.size := by omega
        have HW0 := Lib.hid hW0
        rw [hP, hPB]
        clear hs hss hbod hdeep htk hle hLL hfx hmx hFN hMN hcT hW0l hW0s hP hHD0 hcl hr0 hr1 hR0 hR1 hR0s hR1s hH0 hH0s hPB hPBs hbx hcx hw4 hcx0 hB4 kc1 kc2 hW0
        go_upto_region 8 with fail
        rw [← HW4.out, HCX0.out]
        clear x0 x1 x2 x3 hl1 e0 hl0
        go_upto_if 28 with fail
        go_cut [6] (fun s6 wv => s6 = .string W0 ∧ wv = w4)
        case first =>
          cases act
          · go_wp2_with fail
            go_meet
            exact ⟨by rw [← HW0.out]; rfl, rfl⟩
          · go_wp2_with fail
            go_meet
            exact ⟨by rw [← HW0.out]; rfl, rfl⟩
        case rest =>
        obtain ⟨rfl, hwc⟩ := hcut
        rw [hwc]
        clear hwc
        clear HW0 z1
        go_wp2_with fail
        refine (KH0.out _).mono ?_
        rintro e' w5 ⟨rfl, hb5⟩
        have HB5 := Lib.hid (below_next (Below.refl w4.heap.size w4) hb5)
        clear hb5 z0 k1 k2
        go_wp2_with fail
        go_loopg [3, 7] FN (fun g s3 s7 wq => ∃ i : Nat, s7 = .int .i64 i ∧ i ≤ FN ∧ g = FN - i ∧ s3 = .string ⟨(P ++ HD0 ++ ((flds.take i).map Sy.fieldT).flatten).toArray⟩ ∧ Hid (Below w4.heap.size w4 wq))
        case atStart => exact ⟨0, rfl, Nat.zero_le _, rfl, by rw [← HPB.out, ← HH0.out, mk_app, List.take_zero]; show _ = Value.string ⟨(P ++ HD0 ++ []).toArray⟩; rw [List.append_nil], HB5⟩
        case round =>
          obtain ⟨i, rfl, hi, rfl, rfl, HQ⟩ := hrel
          obtain ⟨wx, hwx⟩ : ∃ q, q = wr := ⟨_, rfl⟩
          rw [← hwx] at HQ ⊢
          clear hwx
          obtain ⟨u0, u2, u3⟩ := HCX.out _ HQ.out
          have hlu := cell_lt' u0
          have HWX : Hid (∀ W, Below wx.heap.size wx W → Below w2.heap.size w2 W) := fun W hb => below_next (HB4.out.trans (HQ.out.mono HB4.out.size)) hb
          by_cases hlt2 : i < FN
          · obtain ⟨f, hf⟩ : ∃ x, flds[i]? = some x := ⟨_, List.getElem?_eq_getElem (by rw [HFN.out]; exact hlt2)⟩
            obtain ⟨fb, fo, rfl, _, hcf⟩ := HF.out.get hf
            have y0 := cell_keep' (HWX.out _ (Below.refl _ _)) hcf
            have hly := cell_lt' y0
            have htk := fl_take Sy.fieldT hf
            have hle := fl_le Sy.fieldT flds (i + 1)
            rw [htk, List.length_append] at hle
            have hLL := HLE.out
            have hfl : (Sy.fieldT f).length = f.size + 8 := by unfold Sy.fieldT; rw [Sy.line_len]; simp only [List.length_append, List.length_cons, List.length_nil, data_len]; omega
            have KF := lineK1 (⟨#[118, 97, 114, 32]⟩ ++ f ++ ⟨#[59]⟩) ([118, 97, 114, 32] ++ f.data.toList ++ [59]) (by have h8 : (⟨#[118, 97, 114, 32]⟩ : ByteArray).size = 4 := rfl; have h9 : (⟨#[59]⟩ : ByteArray).size = 1 := rfl; rw [ByteArray.size_append, ByteArray.size_append, h8, h9]; omega) (by rw [app_list, app_list])
            have hft : Sy.line 1 ([118, 97, 114, 32] ++ f.data.toList ++ [59]) = Sy.fieldT f := rfl
            rw [hft] at KF
            obtain ⟨G, hG⟩ : ∃ q : ByteArray, ⟨(Sy.fieldT f).toArray⟩ = q := ⟨_, rfl⟩
            have hGs : G.size = f.size + 8 := by rw [← hG, ← hfl]; rfl
            rw [hG] at KF
            obtain ⟨V, hV⟩ : ∃ q : ByteArray, ⟨(P ++ HD0 ++ ((flds.take i).map Sy.fieldT).flatten).toArray⟩ = q := ⟨_, rfl⟩
            have hVs : V.size = P.length + HD0.length + ((flds.take i).map Sy.fieldT).flatten.length := by rw [← hV]; show (_ : List UInt8).length = _; rw [List.length_append, List.length_append]
            have hnew : (⟨(P ++ HD0 ++ ((flds.take (i + 1)).map Sy.fieldT).flatten).toArray⟩ : ByteArray) = V ++ G := by rw [htk, ← List.append_assoc, ← hV, ← hG, mk_app]
            have HNEW := Lib.hid hnew
            have k1 : ¬ 9223372036854775807 < 4 + f.size := by omega
            have k2 : ¬ 9223372036854775807 < 4 + f.size + 1 := by omega
            have k4 : ¬ 9223372036854775807 < V.size + G.size := by omega
            have b6 : (i : Int) < (FN : Int) := by omega
            have b7 : (0 : Int) ≤ (i : Int) := by omega
            rw [hV]
            clear hft hf hcf htk hle hLL hfl hG hGs hV hVs hnew
            go_wp2_with fail
            refine (KF.out _).mono ?_
            rintro e' w6 ⟨rfl, hb6⟩
            have HQ6 := Lib.hid (below_next HQ.out hb6)
            clear hb6 y0 hly u0 u2 u3 hlu
            go_wp2_with fail
            go_roundg (FN - (i + 1))
            case measure => omega
            case rel => exact ⟨i + 1, by go_num, by omega, rfl, by rw [HNEW.out], HQ6⟩
          · obtain rfl : i = FN := by omega
            have hfull : flds.take i = flds := List.take_of_length_le (by rw [HFN.out]; exact Nat.le_refl _)
            obtain ⟨PF, hPF⟩ : ∃ q, P ++ HD0 ++ (flds.map Sy.fieldT).flatten = q := ⟨_, rfl⟩
            have hPFl : PF.length + (((mths.map Sy.methodT).flatten).length + 2) ≤ 1000000000 := by have := HLE.out; rw [← hPF, List.length_append, List.length_append]; omega
            have HPFL := Lib.hid hPFl
            have HPF := Lib.hid hPF
            rw [hfull, hPF]
            clear hfull hPF hPFl hlt2
            go_wp2_with fail
            clear u0 u2 u3 hlu HWX
            go_loopg [3, 8, 9, 10, 11] MN (fun g s3 s8 s9 s10 s11 wq => ∃ i : Nat, s8 = .int .i64 i ∧ i ≤ MN ∧ g = MN - i ∧ s3 = .string ⟨(PF ++ ((mths.take i).map Sy.methodT).flatten).toArray⟩ ∧ Hid (Below w4.heap.size w4 wq))
            case atStart => exact ⟨0, rfl, Nat.zero_le _, rfl, by rw [List.take_zero]; show _ = Value.string ⟨(PF ++ []).toArray⟩; rw [List.append_nil], HQ⟩
            case round =>
              obtain ⟨t, rfl, ht, rfl, rfl, HQ⟩ := hrel
              obtain ⟨wm, hwm⟩ : ∃ q, q = wr := ⟨_, rfl⟩
              rw [← hwm] at HQ ⊢
              clear hwm
              obtain ⟨u0, u2, u3⟩ := HCX.out _ HQ.out
              have hlu := cell_lt' u0
              have HWM : Hid (∀ W, Below wm.heap.size wm W → Below w2.heap.size w2 W) := fun W hb => below_next (HB4.out.trans (HQ.out.mono HB4.out.size)) hb
              by_cases hlt3 : t < MN
              · obtain ⟨m, hm⟩ : ∃ x, mths[t]? = some x := ⟨_, List.getElem?_eq_getElem (by rw [HMN.out]; exact hlt3)⟩
                obtain ⟨mb, mo, vx, vy, rfl, _, hcm, _, hpx, hsy⟩ := HM.out.get hm
                have hmm := List.mem_of_getElem? hm
                have hvm := HBOD.out m hmm
                obtain ⟨hdm, hpm⟩ := HDEEP.out m hmm
                have htk := fl_take Sy.methodT hm
                have hle := fl_le Sy.methodT mths (t + 1)
                rw [htk, List.length_append] at hle
                have hLL := HPFL.out
                obtain ⟨mnm, prs, bdy⟩ := m
                have hpx : SlStr w2 vx prs := hpx
                have hsy : SlS w2 vy bdy := hsy
                have hcm : CellsM w2 mb (mo + t * 3) ⟨mnm, prs, bdy⟩ vx vy := hcm
                obtain ⟨pp, pc, rfl⟩ := hpx.form
                obtain ⟨py, cy, rfl, _⟩ := hsy.form
                obtain ⟨PN, hPN⟩ : ∃ q, prs.length = q := ⟨_, rfl⟩
                obtain ⟨YN, hYN⟩ : ∃ q, bdy.length = q := ⟨_, rfl⟩
                rw [hPN] at hpx hcm
                rw [hYN] at hsy hcm
                have hpn6 : PN ≤ 9223372036854775807 := by have := hpx.len; rw [hPN] at this; unfold maxLen at this; exact this
                obtain ⟨y0, y1, y2⟩ := CellsM.keep hcm (HWM.out _ (Below.refl _ _))
                simp only [] at y0 y1 y2
                have hly := cell_lt' y0
                have hmT : Sy.methodT ⟨mnm, prs, bdy⟩ = Sy.line 1 ([111, 110, 32] ++ mnm.data.toList ++ [40] ++ Sy.commas (prs.map (·.data.toList)) ++ [41, 32, 123]) ++ Sy.stmts 2 bdy ++ Sy.line 1 [125] := rfl
                rw [hmT] at htk hle
                obtain ⟨CM, hCM⟩ : ∃ q, Sy.commas (prs.map (·.data.toList)) = q := ⟨_, rfl⟩
                obtain ⟨PA, hPA⟩ : ∃ q : ByteArray, ⟨CM.toArray⟩ = q := ⟨_, rfl⟩
                have hPAs : PA.size = CM.length := by rw [← hPA]; rfl
                rw [hCM] at htk hle
                have hr1 : (Sy.line 1 [125]).length = 4 := rfl
                simp only [List.length_append, Sy.line_len, List.length_cons, List.length_nil, data_len] at hle
                have KH := lineK1 (⟨#[111, 110, 32]⟩ ++ mnm ++ ⟨#[40]⟩ ++ ⟨CM.toArray⟩ ++ ⟨#[41, 32, 123]⟩) ([111, 110, 32] ++ mnm.data.toList ++ [40] ++ CM ++ [41, 32, 123]) (by have h7 : (⟨#[111, 110, 32]⟩ : ByteArray).size = 3 := rfl; have h8 : (⟨#[40]⟩ : ByteArray).size = 1 := rfl; have h9 : (⟨#[41, 32, 123]⟩ : ByteArray).size = 3 := rfl; rw [ByteArray.size_append, ByteArray.size_append, ByteArray.size_append, ByteArray.size_append, h7, h8, h9, show (⟨CM.toArray⟩ : ByteArray).size = CM.length from rfl]; omega) (by rw [app_list, app_list, app_list, app_list])
                have KB : Hid (∀ W, Below w2.heap.size w2 W → Calls Tryz.prog 60 #[.int .i64 2, .slice py YN cy] W fun r w' => r = .returned (.string ⟨(Sy.stmts 2 bdy).toArray⟩) ∧ Below W.heap.size W w') := fun W hb => refStmts_any _ bdy py YN cy 2 W (Nat.le_refl _) hvm hYN (hsy.keep hb) (by have hdm : Tr.S.deep.deeps bdy ≤ 900000 := hdm; omega) (by omega)
                obtain ⟨L1, hL1⟩ : ∃ q : ByteArray, ⟨(Sy.line 1 ([111, 110, 32] ++ mnm.data.toList ++ [40] ++ CM ++ [41, 32, 123])).toArray⟩ = q := ⟨_, rfl⟩
                have hL1s : L1.size = mnm.size + CM.length + 10 := by rw [← hL1]; show (Sy.line 1 ([111, 110, 32] ++ mnm.data.toList ++ [40] ++ CM ++ [41, 32, 123])).length = _; rw [Sy.line_len]; simp only [List.length_append, List.length_cons, List.length_nil, data_len]; omega
                obtain ⟨LB, hLB⟩ : ∃ q : ByteArray, ⟨(Sy.stmts 2 bdy).toArray⟩ = q := ⟨_, rfl⟩
                have hLBs : LB.size = (Sy.stmts 2 bdy).length := by rw [← hLB]; rfl
                rw [hL1, hPA] at KH
                rw [hLB] at KB
                obtain ⟨V, hV⟩ : ∃ q : ByteArray, ⟨(PF ++ ((mths.take t).map Sy.methodT).flatten).toArray⟩ = q := ⟨_, rfl⟩
                have hVs : V.size = PF.length + ((mths.take t).map Sy.methodT).flatten.length := by rw [← hV]; show (_ : List UInt8).length = _; rw [List.length_append]
                have hR1s : R1.size = 4 := by rw [← HR1.out]; rfl
                have hnew : (⟨(PF ++ ((mths.take (t + 1)).map Sy.methodT).flatten).toArray⟩ : ByteArray) = V ++ L1 ++ LB ++ R1 := by
                  rw [htk, ← hV, ← hL1, ← hLB, ← HR1.out, mk_app, mk_app, mk_app]
                  simp only [List.append_assoc]
                have HNEW := Lib.hid hnew
                have KPS : Hid (∀ n, (Sy.commas ((prs.take n).map (·.data.toList))).length ≤ 1000000000) := fun n => by
                  have h1 := Sy.commas_take (prs.map (·.data.toList)) n
                  rw [← List.map_take, hCM] at h1
                  omega
                have g0 : ¬ 9223372036854775807 < 3 + mnm.size := by omega
                have g1 : ¬ 9223372036854775807 < 3 + mnm.size + 1 := by omega
                have g2 : ¬ 9223372036854775807 < 3 + mnm.size + 1 + PA.size := by omega
                have g3 : ¬ 9223372036854775807 < 3 + mnm.size + 1 + PA.size + 3 := by omega
                have g4 : ¬ 9223372036854775807 < V.size + L1.size := by omega
                have g5 : ¬ 9223372036854775807 < V.size + L1.size + LB.size := by omega
                have g6 : ¬ 9223372036854775807 < V.size + L1.size + LB.size + R1.size := by omega
                have hbx := below_box wm (.cells #[.string mnm, .slice pp PN pc, .slice py YN cy] 49)
                have hcx := (MapKept.heap_alloc wm (.cells #[.string mnm, .slice pp PN pc, .slice py YN cy] 49)).1
                obtain ⟨w6, hw6⟩ : ∃ q, q = wm.alloc (.cells #[.string mnm, .slice pp PN pc, .slice py YN cy] 49) := ⟨_, rfl⟩
                obtain ⟨mx, hmx0⟩ : ∃ q, wm.heap.size = q := ⟨_, rfl⟩
                rw [← hw6] at hcx hbx
                rw [hmx0] at hcx
                have HMX : Hid (∀ W, Below w6.heap.size w6 W → W.cell? ⟨mx, 0, none⟩ = some (.string mnm) ∧ W.cell? ⟨mx, 1, none⟩ = some (.slice pp PN pc) ∧ W.cell? ⟨mx, 2, none⟩ = some (.slice py YN cy)) := fun W hb =>
                  ⟨cell_keep' hb (cell_of_blkP hcx (j := 0) (u := .string mnm) rfl), cell_keep' hb (cell_of_blkP hcx (j := 1) (u := .slice pp PN pc) rfl), cell_keep' hb (cell_of_blkP hcx (j := 2) (u := .slice py YN cy) rfl)⟩
                have HQ6 := Lib.hid (below_next HQ.out hbx)
                have HW6 : Hid (∀ W, Below w6.heap.size w6 W → Below w2.heap.size w2 W) := fun W hb => HWM.out W (below_next hbx hb)
                have HWW6 := Lib.hid hw6
                have HMX0 := Lib.hid hmx0
                have HPX := Lib.hid hpx
                have HPN := Lib.hid hPN
                have HCM := Lib.hid hCM
                have HPA := Lib.hid hPA
                have b6 : (t : Int) < (MN : Int) := by omega
                have b7 : (0 : Int) ≤ (t : Int) := by omega
                rw [hV]
                clear hm hmm hvm hdm hpm htk hle hLL hcm hpx hsy hPN hYN hmT hCM hPA hPAs hr1 hL1 hL1s hLB hLBs hV hVs hR1s hnew hbx hcx hw6 hmx0
                go_upto_region 20 with fail
                rw [← HWW6.out, HMX0.out]
                clear y0 y1 y2 hly u0 u2 u3 hlu HWM
                go_wp2_with fail
                go_loopg [10, 11] PN (fun g s10 s11 wq => ∃ n : Nat, s11 = .int .i64 n ∧ n ≤ PN ∧ g = PN - n ∧ s10 = .string ⟨(Sy.commas ((prs.take n).map (·.data.toList))).toArray⟩ ∧ Hid (Below w6.heap.size w6 wq))
                case atStart => exact ⟨0, rfl, Nat.zero_le _, rfl, rfl, Lib.hid (Below.refl _ _)⟩
                case round =>
                  obtain ⟨n, rfl, hn, rfl, rfl, HZ6⟩ := hrel
                  obtain ⟨wx2, hwx2⟩ : ∃ q, q = wr := ⟨_, rfl⟩
                  rw [← hwx2] at HZ6 ⊢
                  clear hwx2
                  obtain ⟨m0, m1, m2⟩ := HMX.out _ HZ6.out
                  have hlm := cell_lt' m0
                  by_cases hlt4 : n < PN
                  · obtain ⟨q, hq⟩ : ∃ x, prs[n]? = some x := ⟨_, List.getElem?_eq_getElem (by rw [HPN.out]; exact hlt4)⟩
                    obtain ⟨pb, po, rfl, _, hcp⟩ := HPX.out.get hq
                    have y0 := cell_keep' (HW6.out _ HZ6.out) hcp
                    have hly := cell_lt' y0
                    have htk : (prs.take (n + 1)).map (·.data.toList) = (prs.take n).map (·.data.toList) ++ [q.data.toList] := by rw [List.take_add_one, hq, List.map_append]; rfl
                    have hk1 := KPS.out n
                    have hk2 := KPS.out (n + 1)
                    obtain ⟨S, hS⟩ : ∃ A : ByteArray, ⟨(Sy.commas ((prs.take n).map (·.data.toList))).toArray⟩ = A := ⟨_, rfl⟩
                    have hSs : S.size = (Sy.commas ((prs.take n).map (·.data.toList))).length := by rw [← hS]; rfl
                    have hql : q.size ≤ 1000000000 := by
                      rw [htk] at hk2
                      by_cases h0 : (prs.take n).map (·.data.toList) = []
                      · rw [h0] at hk2
                        have : (Sy.commas ([] ++ [q.data.toList])).length = q.data.toList.length := rfl
                        rw [this, data_len] at hk2; omega
                      · rw [Sy.commas_snoc _ _ h0, List.length_append, List.length_append, data_len] at hk2; omega
                    have hnew : (⟨(Sy.commas ((prs.take (n + 1)).map (·.data.toList))).toArray⟩ : ByteArray) = if n = 0 then S ++ q else S ++ ⟨#[44, 32]⟩ ++ q := by
                      rw [htk]
                      split
                      · next h0 =>
                        subst h0
                        rw [← hS, ← mk_nm q]
                        show _ = (⟨([] : List UInt8).toArray⟩ : ByteArray) ++ _
                        rw [mk_app, mk_nm]
                        rfl
                      · next h0 =>
                        have h1 : (prs.take n).map (·.data.toList) ≠ [] := by
                          intro h2
                          have h3 := congrArg List.length h2
                          rw [List.length_map, List.length_take, HPN.out] at h3
                          simp only [List.length_nil] at h3
                          omega
                        rw [Sy.commas_snoc _ _ h1, ← hS, ← mk_app, ← mk_app, mk_nm]
                    have HNEW2 := Lib.hid hnew
                    have b8 : (n : Int) < (PN : Int) := by omega
                    have b9 : (0 : Int) ≤ (n : Int) := by omega
                    have k1 : ¬ 9223372036854775807 < S.size + q.size := by omega
                    have k2 : ¬ 9223372036854775807 < S.size + 2 := by omega
                    have k5 : ¬ 9223372036854775807 < S.size + 2 + q.size := by omega
                    rw [hS]
                    clear hq hcp htk hk1 hk2 hS hSs hql hnew
                    by_cases h0 : n = 0
                    · have g9 : ¬ (0 : Int) < (n : Int) := by omega
                      rw [if_pos h0] at HNEW2
                      clear h0
                      go_wp2_with fail
                      go_roundg (PN - (n + 1))
                      case measure => omega
                      case rel => exact ⟨n + 1, by go_num, by omega, rfl, by rw [HNEW2.out], HZ6⟩
                    · have g9 : (0 : Int) < (n : Int) := by omega
                      rw [if_neg h0] at HNEW2
                      clear h0
                      go_wp2_with fail
                      go_roundg (PN - (n + 1))
                      case measure => omega
                      case rel => exact ⟨n + 1, by go_num, by omega, rfl, by rw [HNEW2.out], HZ6⟩
                  · obtain rfl : n = PN := by omega
                    have hfull : prs.take n = prs := List.take_of_length_le (by rw [HPN.out]; exact Nat.le_refl _)
                    have HWX : Hid (∀ W, Below wx2.heap.size wx2 W → Below w2.heap.size w2 W) := fun W hb => HW6.out W (below_next HZ6.out hb)
                    rw [hfull, HCM.out, HPA.out]
                    clear hfull hlt4
                    go_upto_region 27 with fail
                    refine wp_region_held_drew (S := fun W => W.cell? ⟨mx, 0, none⟩ = some (.string mnm) ∧ W.cell? ⟨mx, 2, none⟩ = some (.slice py YN cy) ∧ Hid (Below wx2.heap.size wx2 W)) (by kernel_rfl) ?_ (fun hHeld => ?_)
                    · exact ⟨m0, m2, Lib.hid (Below.refl _ _).drew⟩
                    clear m0 m2
                    refine wpAnyH_take (i := 0) (oi := ⟨some 84, _, _, _, _, _⟩) (v := ?_) rfl (by kernel_rfl) (by kernel_rfl) (by kernel_rfl) (fun _ _ _ h => h) (Or.inl ⟨by rfl, ?_⟩) (by assumption) ?_
                    rotate_left
                    · (intro w hSw; (try dsimp only at hSw); go_simp; (try with_reducible rfl))
                    try simp only [Act.put, List.setIfInBounds_toArray, List.set_cons_zero, List.set_cons_succ]
                    refine wpAnyH_take (i := 1) (oi := ⟨some 85, _, _, _, _, _⟩) (v := ?_) rfl (by kernel_rfl) (by kernel_rfl) (by kernel_rfl) (fun _ _ _ h => h) (Or.inl ⟨by rfl, ?_⟩) (by assumption) ?_
                    rotate_left
                    · (intro w hSw; (try dsimp only at hSw); go_simp; (try with_reducible rfl))
                    try simp only [Act.put, List.setIfInBounds_toArray, List.set_cons_zero, List.set_cons_succ]
                    refine wpAnyH_take (i := 2) (oi := ⟨some 86, _, _, _, _, _⟩) (v := ?_) rfl (by kernel_rfl) (by kernel_rfl) (by kernel_rfl) (fun _ _ _ h => h) (Or.inl ⟨by rfl, ?_⟩) (by assumption) ?_
                    rotate_left
                    · (intro w hSw; (try dsimp only at hSw); go_simp; (try with_reducible rfl))
                    try simp only [Act.put, List.setIfInBounds_toArray, List.set_cons_zero, List.set_cons_succ]
                    refine wpAnyH_take (i := 3) (oi := ⟨some 87, _, _, _, _, _⟩) (v := ?_) rfl (by kernel_rfl) (by kernel_rfl) (by kernel_rfl) (fun _ _ _ h => h) (Or.inl ⟨by rfl, ?_⟩) (by assumption) ?_
                    rotate_left
                    · (intro w hSw; (try dsimp only at hSw); go_simp; (try with_reducible rfl))
                    try simp only [Act.put, List.setIfInBounds_toArray, List.set_cons_zero, List.set_cons_succ]
                    refine wpAnyH_take (i := 4) (oi := ⟨some 88, _, _, _, _, _⟩) (v := ?_) rfl (by kernel_rfl) (by kernel_rfl) (by kernel_rfl) (fun _ _ _ h => h) (Or.inl ⟨by rfl, ?_⟩) (by assumption) ?_
                    rotate_left
                    · (intro w hSw; (try dsimp only at hSw); go_simp; (try with_reducible rfl))
                    try simp only [Act.put, List.setIfInBounds_toArray, List.set_cons_zero, List.set_cons_succ]
                    refine wpAnyH_take (i := 5) (oi := ⟨some 89, _, _, _, _, _⟩) (v := ?_) rfl (by kernel_rfl) (by kernel_rfl) (by kernel_rfl) (fun _ _ _ h => h) (Or.inl ⟨by rfl, ?_⟩) (by assumption) ?_
                    rotate_left
                    · (intro w hSw; (try dsimp only at hSw); go_simp; (try with_reducible rfl))
                    try simp only [Act.put, List.setIfInBounds_toArray, List.set_cons_zero, List.set_cons_succ]
                    refine wpAnyH_take (i := 6) (oi := ⟨some 90, _, _, _, _, _⟩) (v := ?_) rfl (by kernel_rfl) (by kernel_rfl) (by kernel_rfl) (fun _ _ _ h => h) (Or.inl ⟨by rfl, ?_⟩) (by assumption) ?_
                    rotate_left
                    · (intro w hSw; (try dsimp only at hSw); go_simp; (try with_reducible rfl))
                    try simp only [Act.put, List.setIfInBounds_toArray, List.set_cons_zero, List.set_cons_succ]
                    refine wpAnyH_take (i := 7) (oi := ⟨some 91, _, _, _, _, _⟩) (v := ?_) rfl (by kernel_rfl) (by kernel_rfl) (by kernel_rfl) (fun _ _ _ h => h) (Or.inl ⟨by rfl, ?_⟩) (by assumption) ?_
                    rotate_left
                    · (intro w hSw; (try dsimp only at hSw); go_simp; (try with_reducible rfl))
                    try simp only [Act.put, List.setIfInBounds_toArray, List.set_cons_zero, List.set_cons_succ]
                    refine wpAnyH_take (i := 10) (oi := ⟨some 94, _, _, _, _, _⟩) (v := ?_) rfl (by kernel_rfl) (by kernel_rfl) (by kernel_rfl) (fun _ _ _ h => h) (Or.inl ⟨by rfl, ?_⟩) (by assumption) ?_
                    rotate_left
                    · (intro w hSw; (try dsimp only at hSw); go_simp; (try with_reducible rfl))
                    try simp only [Act.put, List.setIfInBounds_toArray, List.set_cons_zero, List.set_cons_succ]
                    refine wpAnyH_take (i := 11) (oi := ⟨some 95, _, _, _, _, _⟩) (v := ?_) rfl (by kernel_rfl) (by kernel_rfl) (by kernel_rfl) (fun _ _ _ h => h) (Or.inl ⟨by rfl, ?_⟩) (by assumption) ?_
                    rotate_left
                    · (intro w hSw; (try dsimp only at hSw); go_simp; (try with_reducible rfl))
                    try simp only [Act.put, List.setIfInBounds_toArray, List.set_cons_zero, List.set_cons_succ]
                    refine wpAnyH_ready (rs := [8]) (by kernel_rfl) (by simp) ?_
                    refine AllReadyH.cons (o := ⟨some 92, _, _, _, _, _⟩) rfl (fun K hK => ?_) AllReadyH.nil
                    go_simp
                    with_reducible refine (KH.out _).mono ?_
                    rintro e w' ⟨rfl, hb⟩
                    go_wp2_with fail
                    refine hK.out _ _ ?_ (fun hHeld => ?_)
                    · exact ⟨cell_keep' hb hHeld.1, cell_keep' hb hHeld.2.1, Lib.hid (below_next hHeld.2.2.out hb)⟩
                    clear hK K
                    try simp only [Act.put, List.setIfInBounds_toArray, List.set_cons_zero, List.set_cons_succ]
                    clear hb
                    refine wpAnyH_take (i := 9) (oi := ⟨some 93, _, _, _, _, _⟩) (v := ?_) rfl (by kernel_rfl) (by kernel_rfl) (by kernel_rfl) (fun _ _ _ h => h) (Or.inl ⟨by rfl, ?_⟩) (by assumption) ?_
                    rotate_left
                    · (intro w hSw; (try dsimp only at hSw); go_simp; (try with_reducible rfl))
                    try simp only [Act.put, List.setIfInBounds_toArray, List.set_cons_zero, List.set_cons_succ]
                    refine wpAnyH_ready (rs := [12]) (by kernel_rfl) (by simp) ?_
                    refine AllReadyH.cons (o := ⟨some 96, _, _, _, _, _⟩) rfl (fun K hK => ?_) AllReadyH.nil
                    go_simp
                    with_reducible refine (KB.out _ (HWX.out _ hHeld.2.2.out)).mono ?_
                    rintro e w' ⟨rfl, hb⟩
                    go_wp2_with fail
                    refine hK.out _ _ ?_ (fun hHeld => ?_)
                    · exact ⟨cell_keep' hb hHeld.1, cell_keep' hb hHeld.2.1, Lib.hid (below_next hHeld.2.2.out hb)⟩
                    clear hK K
                    try simp only [Act.put, List.setIfInBounds_toArray, List.set_cons_zero, List.set_cons_succ]
                    clear hb
                    refine wpAnyH_take (i := 13) (oi := ⟨some 97, _, _, _, _, _⟩) (v := ?_) rfl (by kernel_rfl) (by kernel_rfl) (by kernel_rfl) (fun _ _ _ h => h) (Or.inl ⟨by rfl, ?_⟩) (by assumption) ?_
                    rotate_left
                    · (intro w hSw; (try dsimp only at hSw); go_simp; (try with_reducible rfl))
                    try simp only [Act.put, List.setIfInBounds_toArray, List.set_cons_zero, List.set_cons_succ]
                    refine wpAnyH_ready (rs := [14]) (by kernel_rfl) (by simp) ?_
                    refine AllReadyH.cons (o := ⟨some 98, _, _, _, _, _⟩) rfl (fun K hK => ?_) AllReadyH.nil
                    go_simp
                    with_reducible refine (KR1.out _).mono ?_
                    rintro e w' ⟨rfl, hb⟩
                    go_wp2_with fail
                    refine hK.out _ _ ?_ (fun hHeld => ?_)
                    · exact ⟨cell_keep' hb hHeld.1, cell_keep' hb hHeld.2.1, Lib.hid (below_next hHeld.2.2.out hb)⟩
                    clear hK K
                    try simp only [Act.put, List.setIfInBounds_toArray, List.set_cons_zero, List.set_cons_succ]
                    clear hb
                    refine wpAnyH_take (i := 15) (oi := ⟨some 99, _, _, _, _, _⟩) (v := ?_) rfl (by kernel_rfl) (by kernel_rfl) (by kernel_rfl) (fun _ _ _ h => h) (Or.inl ⟨by rfl, ?_⟩) (by assumption) ?_
                    rotate_left
                    · (intro w hSw; (try dsimp only at hSw); go_simp; (try with_reducible rfl))
                    try simp only [Act.put, List.setIfInBounds_toArray, List.set_cons_zero, List.set_cons_succ]
                    refine wpAnyH_take (i := 16) (oi := ⟨some 3, _, _, _, _, _⟩) (v := ?_) rfl (by kernel_rfl) (by kernel_rfl) (by kernel_rfl) (fun _ _ _ h => h) (Or.inl ⟨by rfl, ?_⟩) (by assumption) ?_
                    rotate_left
                    · (intro w hSw; (try dsimp only at hSw); go_simp; (try with_reducible rfl))
                    try simp only [Act.put, List.setIfInBounds_toArray, List.set_cons_zero, List.set_cons_succ]
                    refine wpAnyH_done (by kernel_rfl) ?_ _
                    have HZ := Lib.hid hHeld.2.2.out
                    clear hHeld
                    go_wp2_with fail
                    have HFIN := Lib.hid (below_next HQ6.out (below_next HZ6.out HZ.out))
                    go_roundg (MN - (t + 1))
                    case measure => omega
                    case rel => exact ⟨t + 1, by go_num, by omega, rfl, by rw [HNEW.out], HFIN⟩
              · obtain rfl : t = MN := by omega
                have hfull : mths.take t = mths := List.take_of_length_le (by rw [HMN.out]; exact Nat.le_refl _)
                have hnew : (⟨((cs.take (j + 1)).map Sy.classT).flatten.toArray⟩ : ByteArray) = ⟨(PF ++ (mths.map Sy.methodT).flatten).toArray⟩ ++ R0 := by
                  rw [HTK.out, ← HR0.out, ← HPF.out, mk_app]
                  simp only [List.append_assoc]
                have HNEW := Lib.hid hnew
                obtain ⟨V, hV⟩ : ∃ q : ByteArray, ⟨(PF ++ (mths.map Sy.methodT).flatten).toArray⟩ = q := ⟨_, rfl⟩
                have hVs : V.size ≤ 1000000000 := by rw [← hV]; show (_ : List UInt8).length ≤ _; rw [List.length_append]; have := HPFL.out; omega
                have hR0s : R0.size = 2 := by rw [← HR0.out]; rfl
                have k1 : ¬ 9223372036854775807 < V.size + R0.size := by omega
                rw [hV] at HNEW
                rw [hfull, hV]
                clear hfull hV hVs hR0s hnew hlt3
                go_wp2_with fail
                refine (KR0.out _).mono ?_
                rintro e' w7 ⟨rfl, hb7⟩
                have HFIN := Lib.hid (HWM.out _ hb7)
                clear hb7 u0 u2 u3 hlu
                go_wp2_with fail
                go_roundg (N - (j + 1))
                case measure => omega
                case rel => exact ⟨j + 1, by go_num, by omega, rfl, by rw [HNEW.out], HFIN⟩
      · obtain rfl : j = N := by omega
        have hfull : cs.take j = cs := List.take_of_length_le (by rw [HN.out]; exact Nat.le_refl _)
        rw [hfull]
        clear hfull
        go_wp2_with fail
        go_ret
        refine ⟨by unfold Sy.programText Sy.progT; rw [HV.out]; rfl, ?_⟩
        exact HB2.out.trans (HB.out.mono HB2.out.size)
end Go.Proofs.YtlgfickhkejdjaaGreatDoor
