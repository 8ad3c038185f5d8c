/-
  SyntaxLines, walked: the lines of a program's text.
-/
import Derived.Test.YtlgfickhkejdjaaGreatDoorMSyLawBase
import Derived.Test.YtlgfickhkejdjaaGreatDoorMSyLinesB
import Derived.Test.YtlgfickhkejdjaaGreatDoorMShelfY
namespace Go.Proofs.YtlgfickhkejdjaaGreatDoor
open Go.RowKit Go.Maps

theorem prog_ne {l : List Tr.C} (h : l ≠ []) : Sy.progT l ≠ [] := by
  cases l with
  | nil => exact absurd rfl h
  | cons c r =>
    intro e
    have := congrArg List.length e
    unfold Sy.progT at this
    rw [List.map_cons, List.flatten_cons, List.length_append, Sy.classT, List.length_append, Sy.line_len] at this
    simp at this

set_option maxRecDepth 100000 in
set_option maxHeartbeats 20000000 in
theorem law_lines (v0 : Value) (l0 : List Tr.C) (w : World) (hE : SyEnv w) (h0 : SlC w v0 l0) (m : Int) (hm : w.cell? ⟨2, 0, none⟩ = some (.int .i64 m)) :
    Calls Tryz.prog 10 #[.agg #[v0]] w fun r w' => r = .returned (.bool true) ∧ Below w.heap.size w w' := by
  have hi0 := h0.i64
  obtain ⟨p0, c0, rfl⟩ := h0.form
  obtain ⟨N0, hN0⟩ : ∃ q, l0.length = q := ⟨_, rfl⟩
  rw [hN0] at h0 ⊢
  have hbc := box1_of w #[.slice p0 N0 c0] 32
  obtain ⟨w1, hw1⟩ : ∃ q, q = w.alloc (.cells #[.slice p0 N0 c0] 32) := ⟨_, rfl⟩
  rw [← hw1] at hbc
  obtain ⟨hb1, hc1⟩ := hbc
  have HW1 := Lib.hid hw1
  have HB1 := Lib.hid hb1
  have HC := Lib.hid hc1
  have hez := hE.keep hb1
  have hs0 := h0.keep hb1
  have KA : Hid (∀ W, Below w1.heap.size w1 W → Calls Tryz.prog 11 #[] W fun r w' => r = .returned (.bool true) ∧ Below W.heap.size W w') := fun W hb => awake38_any W (hez.keep hb)
  have KF0 : Hid (∀ W, Below w1.heap.size w1 W → Calls Tryz.prog 19 #[.agg #[.slice p0 N0 c0], .int .i64 120] W fun r w' => r = .returned (.bool (Tr.fewP l0 120)) ∧ Below W.heap.size W w') := fun W hb => few_any _ l0 120 W (hs0.keep hb) (by decide) (by decide)
  have hsm : Tr.fewP l0 120 = true → (∀ c ∈ l0, ∀ m ∈ c.methods, Tr.S.deep.deeps m.body ≤ 900000 ∧ m.params.length ≤ 1000000) ∧ Sy.sizeP l0 ≤ 1000 ∧ (Sy.progT l0).length ≤ 7000000 := fun h => by
    obtain ⟨x1, x2, x3⟩ := Sy.prog_small h (by decide) hi0
    exact ⟨fun c hc m hm => ⟨Nat.le_trans (x1 c hc m hm).1 (by decide), Nat.le_trans (x1 c hc m hm).2 (by decide)⟩, x2, x3⟩
  have KV : Hid (Tr.fewP l0 120 = true → ∀ W, Below w1.heap.size w1 W → Calls Tryz.prog 20 #[.agg #[.slice p0 N0 c0]] W fun r w' => r = .returned (.bool (Tr.validP l0)) ∧ Below W.heap.size W w') := fun hq W hb => valid_any _ l0 W (hez.syn.keep hb) (Tr.fitP_of hq (by decide)) (hs0.keep hb)
  have KT : Hid (Tr.fewP l0 120 = true → ∀ W, Below w1.heap.size w1 W → Calls Tryz.prog 22 #[.agg #[.slice p0 N0 c0]] W fun r w' => r = .returned (.string ⟨(Sy.programText l0).toArray⟩) ∧ Below W.heap.size W w') := fun hq W hb => program_any _ l0 W (hez.keep hb) (Tr.fitP_of hq (by decide)) (hs0.keep hb) (hsm hq).1 (Nat.le_trans (hsm hq).2.2 (by decide))
  have HM := Lib.hid (cell_keep' hb1 hm)
  clear hE h0 hw1 hb1 hc1 hez hs0 hi0 hm
  cases hq0 : Tr.fewP l0 120
  · rw [hq0] at KF0
    clear hq0 hsm
    go_enter Tryz.func10, Tryz.ntmps10
    go_upto_region 1 with fail
    rw [← HW1.out]
    have HR := Lib.hid (Below.refl w1.heap.size w1)
    go_wp2_with fail
    refine (KA.out _ HR.out).mono ?_
    rintro r wy ⟨rfl, hby⟩
    have HR := Lib.hid (below_next HR.out hby)
    clear hby
    have d0_0 := ((HC.out _ HR.out) 0 _ rfl)
    go_wp2_with fail
    refine (KF0.out _ HR.out).mono ?_
    rintro r wy ⟨rfl, hby⟩
    have HR := Lib.hid (below_next HR.out hby)
    clear hby d0_0
    go_wp2_with fail
    go_ret
    exact ⟨rfl, below_next HB1.out HR.out⟩
  · have KV1 := Lib.hid (KV.out hq0)
    have KT1 := Lib.hid (KT.out hq0)
    clear KV KT
    have hsize := (hsm hq0).2.2
    rw [hq0] at KF0
    clear hq0 hsm
    cases hv0 : Tr.validP l0
    · rw [hv0] at KV1
      clear hv0
      go_enter Tryz.func10, Tryz.ntmps10
      go_upto_region 1 with fail
      rw [← HW1.out]
      have HR := Lib.hid (Below.refl w1.heap.size w1)
      go_wp2_with fail
      refine (KA.out _ HR.out).mono ?_
      rintro r wy ⟨rfl, hby⟩
      have HR := Lib.hid (below_next HR.out hby)
      clear hby
      have d0_0 := ((HC.out _ HR.out) 0 _ rfl)
      go_wp2_with fail
      refine (KF0.out _ HR.out).mono ?_
      rintro r wy ⟨rfl, hby⟩
      have HR := Lib.hid (below_next HR.out hby)
      clear hby d0_0
      have d0_0 := ((HC.out _ HR.out) 0 _ rfl)
      go_wp2_with fail
      refine (KV1.out _ HR.out).mono ?_
      rintro r wy ⟨rfl, hby⟩
      have HR := Lib.hid (below_next HR.out hby)
      clear hby d0_0
      go_wp2_with fail
      go_ret
      exact ⟨rfl, below_next HB1.out HR.out⟩
    · have hpt : Sy.programText l0 = Sy.progT l0 := by unfold Sy.programText; rw [hv0]; rfl
      rw [hpt] at KT1
      rw [hv0] at KV1
      by_cases hnil : l0 = []
      · subst hnil
        have hN00 : N0 = 0 := hN0.symm
        subst hN00
        have he : (⟨(Sy.progT []).toArray⟩ : ByteArray) = ⟨#[]⟩ := rfl
        rw [he] at KT1
        clear hsize hv0 hpt hN0 he
        go_enter Tryz.func10, Tryz.ntmps10
        go_upto_region 1 with fail
        rw [← HW1.out]
        have HR := Lib.hid (Below.refl w1.heap.size w1)
        go_wp2_with fail
        refine (KA.out _ HR.out).mono ?_
        rintro r wy ⟨rfl, hby⟩
        have HR := Lib.hid (below_next HR.out hby)
        clear hby
        have d0_0 := ((HC.out _ HR.out) 0 _ rfl)
        go_wp2_with fail
        refine (KF0.out _ HR.out).mono ?_
        rintro r wy ⟨rfl, hby⟩
        have HR := Lib.hid (below_next HR.out hby)
        clear hby d0_0
        have d0_0 := ((HC.out _ HR.out) 0 _ rfl)
        go_wp2_with fail
        refine (KV1.out _ HR.out).mono ?_
        rintro r wy ⟨rfl, hby⟩
        have HR := Lib.hid (below_next HR.out hby)
        clear hby d0_0
        have d0_0 := ((HC.out _ HR.out) 0 _ rfl)
        go_wp2_with fail
        refine (KT1.out _ HR.out).mono ?_
        rintro r wy ⟨rfl, hby⟩
        have HR := Lib.hid (below_next HR.out hby)
        clear hby d0_0
        have d0_0 := ((HC.out _ HR.out) 0 _ rfl)
        go_wp2_with fail
        go_ret
        exact ⟨rfl, below_next HB1.out HR.out⟩
      · have hne := prog_ne hnil
        obtain ⟨ls, hls, hrun⟩ := Sy.prog_lines hv0
        have hlne : ls ≠ [] := by rintro rfl; exact hne hls
        have hT := Sy.lns_between ls hlne
        rw [← hls] at hT
        obtain ⟨X, hX⟩ : ∃ q, Sy.between ls = q := ⟨_, rfl⟩
        rw [hT, hX] at KT1
        obtain ⟨T, hTT⟩ : ∃ q : ByteArray, ⟨(X ++ [10]).toArray⟩ = q := ⟨_, rfl⟩
        rw [hTT] at KT1
        have hsz : T.size = X.length + 1 := by rw [← hTT]; show (X ++ [10]).toArray.size = _; simp
        have hnl : T.toList.isEmpty = false := by
          rw [Lib.toList_data, ← hTT]
          show (X ++ [10]).toArray.toList.isEmpty = false
          simp
        have hpos : 0 < T.size := by omega
        have hlast : ∀ (k : Nat) (h : k < T.size), k = X.length → T[k].toNat = 10 := fun k h e => by
          subst hTT; subst e
          show ((X ++ [10]).toArray[X.length]'(by simp)).toNat = 10
          simp
        have hsm2 : T.size ≤ 7000000 := by rw [hsz]; have := congrArg List.length (hT.trans (by rw [hX])); simp at this; omega
        clear hsize hpt hN0 hne hls hT hv0 hnil
        go_enter Tryz.func10, Tryz.ntmps10
        go_upto_region 1 with fail
        rw [← HW1.out]
        have HR := Lib.hid (Below.refl w1.heap.size w1)
        go_wp2_with fail
        refine (KA.out _ HR.out).mono ?_
        rintro r wy ⟨rfl, hby⟩
        have HR := Lib.hid (below_next HR.out hby)
        clear hby
        have d0_0 := ((HC.out _ HR.out) 0 _ rfl)
        go_wp2_with fail
        refine (KF0.out _ HR.out).mono ?_
        rintro r wy ⟨rfl, hby⟩
        have HR := Lib.hid (below_next HR.out hby)
        clear hby d0_0
        have d0_0 := ((HC.out _ HR.out) 0 _ rfl)
        go_wp2_with fail
        refine (KV1.out _ HR.out).mono ?_
        rintro r wy ⟨rfl, hby⟩
        have HR := Lib.hid (below_next HR.out hby)
        clear hby d0_0
        have d0_0 := ((HC.out _ HR.out) 0 _ rfl)
        go_wp2_with fail
        refine (KT1.out _ HR.out).mono ?_
        rintro r wy ⟨rfl, hby⟩
        have HR := Lib.hid (below_next HR.out hby)
        clear hby d0_0
        have hUd : (T.extract 0 X.length).data.toList = Sy.between ls := by
          rw [Lib.extract_data, hX, ← hTT]
          simp
        obtain ⟨U, hU⟩ : ∃ q, T.extract 0 X.length = q := ⟨_, rfl⟩
        rw [hU] at hUd
        have hUs : U.size < 4294967281 := by
          have h3 : U.size = U.data.toList.length := rfl
          rw [h3, hUd, hX]
          omega
        have hok := hrun.ok
        obtain ⟨hcnt, hspl⟩ := Sy.split_lines hlne hok hUd
        obtain ⟨K, hK⟩ : ∃ q, ls.length = q := ⟨_, rfl⟩
        have hK7 : K ≤ 8000000 := by
          have h3 : U.size = U.data.toList.length := rfl
          have h4 := Sy.between_len ls
          rw [← hUd, ← h3] at h4
          have h5 : U.size ≤ T.size := by rw [← hU]; simp; omega
          omega
        have KS : Hid (∀ W, Below w1.heap.size w1 W → Calls Tryz.prog 33 #[.string U, .string ⟨#[10]⟩] W fun r w' => ∃ g, r = .returned (.slice (some ⟨g, 0, none⟩) K K) ∧ (∀ (j : Nat) (x : Sy.Ln), ls[j]? = some x → w'.cell? ⟨g, j, none⟩ = some (.string ⟨(Sy.lnT x).toArray⟩)) ∧ Below W.heap.size W w') := fun W hb => by
          refine (Tryz.strings_Split U ⟨#[10]⟩ m W hUs (cell_keep' hb HM.out) (by decide)).mono ?_
          rintro r w' ⟨rfl, rfl⟩
          refine ⟨W.heap.size, by rw [hcnt, hK], fun j x hj => ?_, below_box _ _⟩
          refine box_cell W _ _ j _ ?_
          rw [List.getElem?_toArray, List.getElem?_map, hspl j x hj]
          rfl
        have hlx : ∀ x ∈ ls, (⟨(Sy.lnT x).toArray⟩ : ByteArray).size ≤ 8000000 := fun x hm => by
          have h3 := Sy.lnT_le ls x hm
          have h4 : (⟨(Sy.lnT x).toArray⟩ : ByteArray).size = (Sy.lnT x).length := by show (Sy.lnT x).toArray.size = _; simp
          rw [hX] at h3
          omega
        have HLX := Lib.hid hlx
        have HRUN := Lib.hid hrun
        have HOK := Lib.hid hok
        have HK := Lib.hid hK
        have HU := Lib.hid hU
        clear hlx hUd hU hUs hok hcnt hspl hrun hK hlne hX hTT
        go_wp2_with fail
        rw [HU.out]
        refine (KS.out _ HR.out).mono ?_
        rintro r w2 ⟨g, rfl, hcells, hby⟩
        have HR2 := Lib.hid (below_next HR.out hby)
        have HCELL := Lib.hid hcells
        clear hby hcells hsz hnl hpos hlast hsm2 HU KS KT1 KV1 KF0 KA
        go_wp2_with fail
        go_loopg [4, 39] K (fun gg s4 s39 wr => ∃ (j d : Nat), s39 = .int .i64 j ∧ j ≤ K ∧ gg = K - j ∧ s4 = .int .i64 d ∧ d ≤ j ∧ Hid (Sy.Run d (ls.drop j) 0) ∧ Hid (Below w2.heap.size w2 wr))
        case atStart => exact ⟨0, 0, rfl, Nat.zero_le _, rfl, rfl, Nat.le_refl _, HRUN, Below.refl _ _⟩
        case round =>
          obtain ⟨j, d, rfl, hj, rfl, rfl, hdj, HRN, HB⟩ := hrel
          by_cases hlt : j < K
          · obtain ⟨x, hx⟩ : ∃ x, ls[j]? = some x := ⟨_, List.getElem?_eq_getElem (by rw [HK.out]; exact hlt)⟩
            have hdr : ls.drop j = x :: ls.drop (j + 1) := Tr.drop_get hx
            have hr0 := HRN.out
            rw [hdr] at hr0
            have hokx := HOK.out x (List.mem_of_getElem? hx)
            have c0 := cell_keep' HB.out (HCELL.out j x hx)
            have hAs := Sy.lnT_size x
            have hA7 := HLX.out x (List.mem_of_getElem? hx)
            have htr := Sy.trim_line hokx
            obtain ⟨A, hA⟩ : ∃ q : ByteArray, ⟨(Sy.lnT x).toArray⟩ = q := ⟨_, rfl⟩
            obtain ⟨BB, hBB⟩ : ∃ q : ByteArray, ⟨x.2.toArray⟩ = q := ⟨_, rfl⟩
            have hAd : A.data.toList = Sy.lnT x := by rw [← hA]
            have hBd : BB.data.toList = x.2 := by rw [← hBB]
            have hBs : BB.size = x.2.length := by rw [← hBd]; rfl
            have KTR : Hid (∀ W, Calls Tryz.prog 34 #[.string A, .string ⟨#[32]⟩] W fun r w' => r = .returned (.string BB) ∧ w' = W) := fun W => by
              have h := Tryz.strings_TrimLeft_one A 32 (by decide) W
              rw [hAd, htr, hBB] at h
              exact h
            have KHP : Hid (∀ W, Calls Tryz.prog 35 #[.string BB, .string ⟨#[125]⟩] W fun r w' => r = .returned (.bool (Lib.hasPrefix x.2 [125])) ∧ w' = W) := fun W => by
              have h := Tryz.strings_HasPrefix BB ⟨#[125]⟩ W
              rw [hBd] at h
              exact h
            have hne0 : BB.toList.isEmpty = false := by
              obtain ⟨b, r, e, _⟩ := hokx.hd
              rw [Lib.toList_data, hBd, e]
              rfl
            rw [hA] at c0 hAs hA7
            rw [← hBs] at hAs
            have hlastB : ∀ (k : Nat) (h : k < BB.size) (c : UInt8) (t : List UInt8), x.2 = t ++ [c] → k = t.length → BB[k] = c := fun k h c t e ek => by
              subst ek
              subst hBB
              show x.2.toArray[t.length] = c
              simp [e]
            have hposB : 0 < BB.size := by
              obtain ⟨b, r, e, _⟩ := hokx.hd
              rw [hBs, e]
              simp
            have HLB := Lib.hid hlastB
            have HR0 := Lib.hid hr0
            clear htr hA hAd hBB hBd hokx hdr hlastB hr0
            rcases Sy.run_inv HR0.out with ⟨t, ht, rfl, hr⟩ | ⟨t, ht, rfl, hr⟩ | ⟨d1, rfl, rfl, hr⟩ | ⟨d1, rfl, rfl, hr⟩
            · have HRR := Lib.hid hr
              clear hr HR0 HRN
              have hp : Lib.hasPrefix (t ++ [59]) [125] = false := by
                obtain ⟨hc, b, r, rfl, _⟩ := ht
                have h1 := hc b (by simp)
                have h2 : b ≠ 125 := by rintro rfl; revert h1; decide
                unfold Lib.hasPrefix
                simp [List.isPrefixOf, h2.symm]
              simp only [] at KHP hAs hBs
              rw [hp] at KHP
              clear hp ht
              obtain ⟨M, hM⟩ : ∃ q, t.length = q := ⟨_, rfl⟩
              have hlen : BB.size = M + 1 := by rw [hBs, ← hM]; simp
              have hMl : M < BB.size := by omega
              have hL : BB[M] = 59 := HLB.out M hMl 59 t rfl hM.symm
              have a123 : (((BB[M].toNat : Nat) : Int) == 123) = false := by rw [hL]; rfl
              have a125 : (((BB[M].toNat : Nat) : Int) == 125) = false := by rw [hL]; rfl
              have a59 : (((BB[M].toNat : Nat) : Int) == 59) = true := by rw [hL]; rfl
              have hM8 : M ≤ 8000000 := by omega
              clear HLB hBs hM hL
              go_wp2_with fail
              refine (KTR.out _).mono ?_
              rintro r wt ⟨rfl, rfl⟩
              go_wp2_with fail
              refine (KHP.out _).mono ?_
              rintro r wt ⟨rfl, rfl⟩
              go_wp2_with fail
              go_roundg (K - (j + 1))
              case measure => omega
              case rel => exact ⟨j + 1, d, by go_num, by omega, rfl, by go_num, by omega, HRR, HB⟩
            · have HRR := Lib.hid hr
              clear hr HR0 HRN
              have hp : Lib.hasPrefix (t ++ [123]) [125] = false := by
                obtain ⟨hc, b, r, rfl, _⟩ := ht
                have h1 := hc b (by simp)
                have h2 : b ≠ 125 := by rintro rfl; revert h1; decide
                unfold Lib.hasPrefix
                simp [List.isPrefixOf, h2.symm]
              simp only [] at KHP hAs hBs
              rw [hp] at KHP
              clear hp ht
              obtain ⟨M, hM⟩ : ∃ q, t.length = q := ⟨_, rfl⟩
              have hlen : BB.size = M + 1 := by rw [hBs, ← hM]; simp
              have hMl : M < BB.size := by omega
              have hL : BB[M] = 123 := HLB.out M hMl 123 t rfl hM.symm
              have a123 : (((BB[M].toNat : Nat) : Int) == 123) = true := by rw [hL]; rfl
              have a125 : (((BB[M].toNat : Nat) : Int) == 125) = false := by rw [hL]; rfl
              have a59 : (((BB[M].toNat : Nat) : Int) == 59) = false := by rw [hL]; rfl
              have hM8 : M ≤ 8000000 := by omega
              clear HLB hBs hM hL
              go_wp2_with fail
              refine (KTR.out _).mono ?_
              rintro r wt ⟨rfl, rfl⟩
              go_wp2_with fail
              refine (KHP.out _).mono ?_
              rintro r wt ⟨rfl, rfl⟩
              go_wp2_with fail
              go_roundg (K - (j + 1))
              case measure => omega
              case rel => exact ⟨j + 1, d + 1, by go_num, by omega, rfl, by go_num, by omega, HRR, HB⟩
            · have HRR := Lib.hid hr
              clear hr HR0 HRN
              simp only [] at KHP hAs hBs
              rw [show Lib.hasPrefix ([125, 32, 101, 108, 115, 101, 32] ++ [123]) [125] = true from rfl] at KHP
              obtain ⟨M, hM⟩ : ∃ q, 7 = q := ⟨_, rfl⟩
              have hlen : BB.size = M + 1 := by rw [hBs, ← hM]; simp
              have hMl : M < BB.size := by omega
              have hL : BB[M] = 123 := HLB.out M hMl 123 [125, 32, 101, 108, 115, 101, 32] rfl hM.symm
              have a123 : (((BB[M].toNat : Nat) : Int) == 123) = true := by rw [hL]; rfl
              have a125 : (((BB[M].toNat : Nat) : Int) == 125) = false := by rw [hL]; rfl
              have a59 : (((BB[M].toNat : Nat) : Int) == 59) = false := by rw [hL]; rfl
              have hM8 : M ≤ 8000000 := by omega
              clear HLB hBs hM hL
              go_wp2_with fail
              refine (KTR.out _).mono ?_
              rintro r wt ⟨rfl, rfl⟩
              go_wp2_with fail
              refine (KHP.out _).mono ?_
              rintro r wt ⟨rfl, rfl⟩
              go_wp2_with fail
              go_roundg (K - (j + 1))
              case measure => omega
              case rel => exact ⟨j + 1, d1 + 1, by go_num, by omega, rfl, by go_num, by omega, HRR, HB⟩
            · have HRR := Lib.hid hr
              clear hr HR0 HRN
              simp only [] at KHP hAs hBs
              rw [show Lib.hasPrefix ([] ++ [125]) [125] = true from rfl] at KHP
              obtain ⟨M, hM⟩ : ∃ q, 0 = q := ⟨_, rfl⟩
              have hlen : BB.size = M + 1 := by rw [hBs, ← hM]; simp
              have hMl : M < BB.size := by omega
              have hL : BB[M] = 125 := HLB.out M hMl 125 [] rfl hM.symm
              have a123 : (((BB[M].toNat : Nat) : Int) == 123) = false := by rw [hL]; rfl
              have a125 : (((BB[M].toNat : Nat) : Int) == 125) = true := by rw [hL]; rfl
              have a59 : (((BB[M].toNat : Nat) : Int) == 59) = false := by rw [hL]; rfl
              have hM8 : M ≤ 8000000 := by omega
              clear HLB hBs hM hL
              go_wp2_with fail
              refine (KTR.out _).mono ?_
              rintro r wt ⟨rfl, rfl⟩
              go_wp2_with fail
              refine (KHP.out _).mono ?_
              rintro r wt ⟨rfl, rfl⟩
              go_wp2_with fail
              go_roundg (K - (j + 1))
              case measure => omega
              case rel => exact ⟨j + 1, d1, by go_num, by omega, rfl, by go_num, by omega, HRR, HB⟩
          · obtain rfl : j = K := by omega
            have hr := HRN.out
            rw [← HK.out, List.drop_length] at hr
            have hd0 : d = 0 := by cases hr; rfl
            subst hd0
            clear hr HRN
            go_wp2_with fail
            go_ret
            exact ⟨rfl, below_next HB1.out (below_next HR2.out HB.out)⟩
end Go.Proofs.YtlgfickhkejdjaaGreatDoor
