/-
  Trees of the language: the reference's names (name, Variable, ClassName, names), walked.
-/
import Derived.Test.YtlgfickhkejdjaaGreatDoorMTrA
import Derived.Test.YtlgfickhkejdjaaGreatDoorMLexA
namespace Go.Proofs.YtlgfickhkejdjaaGreatDoor
open Go.RowKit

theorem kw_cells (w : World) : Calls Tryz.prog 110 #[] w fun e w' => e = .returned (.slice (some ⟨w.heap.size, 0, none⟩) 24 24) ∧ (∀ j, j < 24 → w'.cell? ⟨w.heap.size, 0 + j, none⟩ = some (.string (kwz j))) ∧ Below w.heap.size w w' :=
  (keywords_any w).mono fun _ _ ⟨h1, h2⟩ => ⟨h1, fun j hj => by rw [h2]; exact strs_cell Lex.keywords rfl (by simp) j hj, by rw [h2]; exact (Below.refl _ _).alloc (Nat.le_refl _) _⟩
theorem kw_len : Lex.keywords.length = 24 := rfl
theorem inB_kw (s : ByteArray) : inB kwz s 24 = Lex.keywords.contains s.data.toList := by
  rw [Bool.eq_iff_iff]
  unfold inB kwz
  simp only [List.any_eq_true, List.mem_range, decide_eq_true_eq, List.contains_iff_mem]
  constructor
  · rintro ⟨j, hj, rfl⟩
    simp only []
    rw [List.getD, List.getElem?_eq_getElem (by rw [kw_len]; exact hj)]
    exact List.getElem_mem _
  · intro h
    obtain ⟨j, hj, e⟩ := List.mem_iff_getElem.1 h
    refine ⟨j, by rw [← kw_len]; exact hj, ?_⟩
    rw [List.getD, List.getElem?_eq_getElem hj]
    simp only [Option.getD_some, e]
theorem wordc_cases {c : UInt8} (h : Lex.wordc c = true) : (97 ≤ (c.toNat : Int) ∧ (c.toNat : Int) ≤ 122) ∨ (65 ≤ (c.toNat : Int) ∧ (c.toNat : Int) ≤ 90) ∨ (48 ≤ (c.toNat : Int) ∧ (c.toNat : Int) ≤ 57) ∨ (c.toNat : Int) = 95 := by
  unfold Lex.wordc Lex.letter Lex.digit at h
  simp only [Bool.or_eq_true, decide_eq_true_eq] at h
  omega
theorem wordc_no {c : UInt8} (h : Lex.wordc c = false) : (c.toNat : Int) < 48 ∨ (57 < (c.toNat : Int) ∧ (c.toNat : Int) < 65) ∨ (90 < (c.toNat : Int) ∧ (c.toNat : Int) < 95) ∨ (c.toNat : Int) = 96 ∨ 122 < (c.toNat : Int) := by
  unfold Lex.wordc Lex.letter Lex.digit at h
  simp only [Bool.or_eq_false_iff, decide_eq_false_iff_not] at h
  omega
theorem head_byte (s : ByteArray) (h : 0 < s.size) : s.data.toList.headD 0 = s[0] := head_get s h

theorem byte_mem (s : ByteArray) (k : Nat) (h : k < s.size) : s[k] ∈ s.data.toList := by
  have e : s.data.toList[k]'(by rw [data_len]; exact h) = s[k] := rfl
  rw [← e]; exact List.getElem_mem _

set_option maxRecDepth 100000 in
set_option maxHeartbeats 4000000 in
theorem nameR_any (s : ByteArray) (lo hi : Nat) (w : World) (hs : s.size ≤ maxLen) :
    Calls Tryz.prog 75 #[.string s, .int .u8 lo, .int .u8 hi] w fun e w' => e = .returned (.bool (Tr.nameL lo hi s.data.toList)) ∧ Below w.heap.size w w' := by
  unfold maxLen at hs
  have no : ∀ (h : ¬ (s.data.toList ≠ [] ∧ s.data.toList.length ≤ 31 ∧ lo ≤ (s.data.toList.headD 0).toNat ∧ (s.data.toList.headD 0).toNat ≤ hi)), Tr.nameL lo hi s.data.toList = false := fun h => by
    unfold Tr.nameL; rw [decide_eq_false h]; rfl
  by_cases h0 : s.size = 0
  · have hf := Lib.hid (no (by rw [← List.length_pos_iff, data_len]; omega))
    have h0' : ((s.size : Int) == 0) = true := by rw [h0]; rfl
    have h00 : s.size ≤ 0 := by omega
    clear no h0
    go_enter Tryz.func75, Tryz.ntmps75
    go_wp2
    go_ret
    exact ⟨by rw [hf.out]; rfl, Below.refl _ _⟩
  · have h1 : 0 < s.size := by omega
    have h0' : ((s.size : Int) == 0) = false := beq_eq_false_iff_ne.2 (by omega)
    clear h0
    have hhead := head_byte s h1
    have hlen := data_len s
    have hne : s.data.toList ≠ [] := by rw [← List.length_pos_iff, hlen]; exact h1
    obtain ⟨c, hc⟩ : ∃ c, s[0] = c := ⟨_, rfl⟩
    have hb1 : (0 : Int) ≤ (c.toNat : Int) := by omega
    have hb2 : (c.toNat : Int) ≤ 255 := by have := c.toNat_lt; omega
    rw [hhead, hc] at no
    have HH := Lib.hid (hhead.trans hc)
    have HC := Lib.hid hc
    have HNE := Lib.hid hne
    have HLEN := Lib.hid hlen
    have HNO := Lib.hid no
    clear no hhead hne hlen
    by_cases h31 : 31 < s.size
    · have hf := Lib.hid (HNO.out (fun h => by have := h.2.1; rw [HLEN.out] at this; omega))
      clear hc
      go_enter Tryz.func75, Tryz.ntmps75
      go_wp2
      go_ret
      exact ⟨by rw [hf.out]; rfl, Below.refl _ _⟩
    · by_cases hl : (c.toNat : Int) < (lo : Int)
      · have hf := Lib.hid (HNO.out (fun h => by have := h.2.2.1; omega))
        go_enter Tryz.func75, Tryz.ntmps75
        go_wp2
        go_ret
        exact ⟨by rw [hf.out]; rfl, Below.refl _ _⟩
      · by_cases hh : (hi : Int) < (c.toNat : Int)
        · have hf := Lib.hid (HNO.out (fun h => by have := h.2.2.2; omega))
          go_enter Tryz.func75, Tryz.ntmps75
          go_wp2
          go_ret
          exact ⟨by rw [hf.out]; rfl, Below.refl _ _⟩
        · have hyes := Lib.hid (show decide (s.data.toList ≠ [] ∧ s.data.toList.length ≤ 31 ∧ lo ≤ (s.data.toList.headD 0).toNat ∧ (s.data.toList.headD 0).toNat ≤ hi) = true from decide_eq_true ⟨HNE.out, by rw [HLEN.out]; omega, by rw [HH.out]; omega, by rw [HH.out]; omega⟩)
          have hin := fun b w0 (hcells : ∀ j, j < 24 → w0.cell? ⟨b, 0 + j, none⟩ = some (.string (kwz j))) => in_any b 0 24 24 kwz s w0 (by omega) hcells
          cases hkw : Lex.keywords.contains s.data.toList
          · have hB : inB kwz s 24 = false := (inB_kw s).trans hkw
            rw [hB] at hin
            have HIN := Lib.hid hin
            have HKW := Lib.hid hkw
            clear hin hkw hB
            go_enter Tryz.func75, Tryz.ntmps75
            go_wp2_with fail
            refine (kw_cells _).mono ?_
            rintro e w1 ⟨rfl, hk1, hb1'⟩
            have HK := Lib.hid hk1
            have HB1 := Lib.hid hb1'
            clear hk1 hb1'
            go_wp2_with fail
            refine (HIN.out _ _ HK.out).mono ?_
            rintro e w2 ⟨rfl, rfl⟩
            clear hc
            go_wp2_with fail
            go_loop [7] (fun s7 => ∃ k : Nat, s7 = .int .i64 k ∧ k ≤ s.size ∧ ∀ (j : Nat) (hj : j < s.size), j < k → Lex.wordc s[j] = true) (fun s7 => s.size - (intOf s7).toNat)
            case atStart => exact ⟨0, rfl, Nat.zero_le _, fun j hj h => by omega⟩
            case round =>
              obtain ⟨k, rfl, hk, hall⟩ := hrel
              have HA := Lib.hid hall
              clear hall
              by_cases hlt : k < s.size
              · have hd1 : (0 : Int) ≤ (s[k].toNat : Int) := by omega
                have hd2 : (s[k].toNat : Int) ≤ 255 := by have := s[k].toNat_lt; omega
                cases hw : Lex.wordc s[k]
                · have hcs := wordc_no hw
                  have hn95 : ((s[k].toNat : Int) != 95) = true := by rw [bne_iff_ne]; omega
                  have hf := Lib.hid (show Tr.nameL lo hi s.data.toList = false by
                    have : s.data.toList.all Lex.wordc = false := by
                      rw [List.all_eq_false]
                      exact ⟨s[k], byte_mem s k hlt, by rw [hw]; simp⟩
                    unfold Tr.nameL; rw [this, Bool.and_false])
                  clear hw
                  rcases hcs with hcs | ⟨hcs, hcs'⟩ | ⟨hcs, hcs'⟩ | hcs | hcs
                  · go_wp2
                    go_ret
                    exact ⟨by rw [hf.out]; rfl, HB1.out⟩
                  · go_wp2
                    go_ret
                    exact ⟨by rw [hf.out]; rfl, HB1.out⟩
                  · go_wp2
                    go_ret
                    exact ⟨by rw [hf.out]; rfl, HB1.out⟩
                  · have h1 : 95 < (s[k].toNat : Int) := by omega
                    have h2 : (s[k].toNat : Int) < 97 := by omega
                    clear hcs
                    go_wp2
                    go_ret
                    exact ⟨by rw [hf.out]; rfl, HB1.out⟩
                  · go_wp2
                    go_ret
                    exact ⟨by rw [hf.out]; rfl, HB1.out⟩
                · have hcs := wordc_cases hw
                  have HW := Lib.hid hw
                  clear hw
                  have hnext : Hid (∀ (j : Nat) (hj : j < s.size), j < k + 1 → Lex.wordc s[j] = true) := by
                    intro j hj hjk
                    by_cases e : j = k
                    · subst e; exact HW.out
                    · exact HA.out j hj (by omega)
                  rcases hcs with ⟨hcs, hcs'⟩ | ⟨hcs, hcs'⟩ | ⟨hcs, hcs'⟩ | hcs
                  · go_wp2
                    go_round
                    case rel => exact ⟨k + 1, by go_num, by omega, hnext.out⟩
                    case measure => simp [intOf]; omega
                  · go_wp2
                    go_round
                    case rel => exact ⟨k + 1, by go_num, by omega, hnext.out⟩
                    case measure => simp [intOf]; omega
                  · go_wp2
                    go_round
                    case rel => exact ⟨k + 1, by go_num, by omega, hnext.out⟩
                    case measure => simp [intOf]; omega
                  · have hn95 : ((s[k].toNat : Int) != 95) = false := by rw [hcs]; rfl
                    have h1 : 94 < (s[k].toNat : Int) := by omega
                    have h2 : (s[k].toNat : Int) < 96 := by omega
                    clear hcs
                    go_wp2
                    go_round
                    case rel => exact ⟨k + 1, by go_num, by omega, hnext.out⟩
                    case measure => simp [intOf]; omega
              · have hf := Lib.hid (show Tr.nameL lo hi s.data.toList = true by
                  have : s.data.toList.all Lex.wordc = true := by
                    rw [List.all_eq_true]
                    intro x hx
                    obtain ⟨j, hj, e⟩ := List.mem_iff_getElem.1 hx
                    have hj' : j < s.size := by rw [HLEN.out] at hj; exact hj
                    rw [← e]
                    exact HA.out j hj' (by omega)
                  unfold Tr.nameL; rw [hyes.out, HKW.out, this]; rfl)
                go_wp2
                go_ret
                exact ⟨by rw [hf.out]; rfl, HB1.out⟩
          · have hB : inB kwz s 24 = true := (inB_kw s).trans hkw
            rw [hB] at hin
            have HIN := Lib.hid hin
            have HKW := Lib.hid hkw
            have hf := Lib.hid (show Tr.nameL lo hi s.data.toList = false by unfold Tr.nameL; rw [hkw, Bool.not_true, Bool.and_false, Bool.false_and])
            clear hin hkw hB
            go_enter Tryz.func75, Tryz.ntmps75
            go_wp2_with fail
            refine (kw_cells _).mono ?_
            rintro e w1 ⟨rfl, hk1, hb1'⟩
            have HK := Lib.hid hk1
            have HB1 := Lib.hid hb1'
            clear hk1 hb1'
            go_wp2_with fail
            refine (HIN.out _ _ HK.out).mono ?_
            rintro e w2 ⟨rfl, rfl⟩
            clear hc
            go_wp2_with fail
            go_ret
            exact ⟨by rw [hf.out]; rfl, HB1.out⟩

set_option maxHeartbeats 400000 in
theorem variable_any (s : ByteArray) (w : World) (hs : s.size ≤ maxLen) :
    Calls Tryz.prog 40 #[.string s] w fun e w' => e = .returned (.bool (Tr.varB s)) ∧ Below w.heap.size w w' := by
  have H := Lib.hid (nameR_any s 97 122 w hs)
  go_enter Tryz.func40, Tryz.ntmps40
  go_wp2_with fail
  refine H.out.mono ?_
  rintro e w' ⟨rfl, hb⟩
  go_wp2_with fail
  go_ret
  exact ⟨rfl, hb⟩
set_option maxHeartbeats 400000 in
theorem className_any (s : ByteArray) (w : World) (hs : s.size ≤ maxLen) :
    Calls Tryz.prog 41 #[.string s] w fun e w' => e = .returned (.bool (Tr.clsB s)) ∧ Below w.heap.size w w' := by
  have H := Lib.hid (nameR_any s 65 90 w hs)
  go_enter Tryz.func41, Tryz.ntmps41
  go_wp2_with fail
  refine H.out.mono ?_
  rintro e w' ⟨rfl, hb⟩
  go_wp2_with fail
  go_ret
  exact ⟨rfl, hb⟩
set_option maxRecDepth 100000 in
set_option maxHeartbeats 1000000 in
theorem names_any (v : Value) (l : List ByteArray) (w : World) (h : SlStr w v l) :
    Calls Tryz.prog 56 #[v] w fun r w' => r = .returned (.bool (l.all Tr.varB)) ∧ Below w.heap.size w w' := by
  have H := Lib.hid h
  obtain ⟨p, c, rfl, hl, _, _⟩ := h
  unfold maxLen at hl
  obtain ⟨N, hN⟩ : ∃ N, l.length = N := ⟨_, rfl⟩
  rw [hN] at hl H ⊢
  have HN := Lib.hid hN
  clear hN
  go_enter Tryz.func56, Tryz.ntmps56
  go_wp2
  go_loopw [3] (fun s3 wr => ∃ j : Nat, s3 = .int .i64 j ∧ j ≤ N ∧ (∀ t s, t < j → l[t]? = some s → Tr.varB s = true) ∧ Below w.heap.size w wr) (fun s3 _ => N - (intOf s3).toNat)
  case atStart => exact ⟨0, rfl, Nat.zero_le _, fun t s ht => by omega, Below.refl _ _⟩
  case round =>
    obtain ⟨j, rfl, hj, hall, hbr⟩ := hrel
    have HA := Lib.hid hall
    have HBR := Lib.hid hbr
    clear hall
    by_cases hlt : j < N
    · obtain ⟨x, hx⟩ : ∃ x, l[j]? = some x := ⟨_, List.getElem?_eq_getElem (by rw [HN.out]; exact hlt)⟩
      obtain ⟨p', c', e, _, _, hcell⟩ := H.out.keep hbr
      cases e
      obtain ⟨hsz, b, o, rfl, hb, hc⟩ := hcell j x hx
      have HXJ := Lib.hid hx
      have HV := Lib.hid (variable_any x wr hsz)
      clear hx hcell hbr
      cases hv : Tr.varB x
      · have HF := Lib.hid (all_no HXJ.out hv)
        rw [hv] at HV
        clear hv
        go_wp2_with fail
        refine HV.out.mono ?_
        rintro e w2 ⟨rfl, hb2⟩
        go_wp2_with fail
        go_ret
        exact ⟨by rw [HF.out]; rfl, below_next HBR.out hb2⟩
      · have HVT := Lib.hid hv
        rw [hv] at HV
        clear hv
        go_wp2_with fail
        refine HV.out.mono ?_
        rintro e w2 ⟨rfl, hb2⟩
        go_wp2_with fail
        go_roundw
        case rel =>
          refine ⟨j + 1, by go_num, by omega, fun t s ht hts => ?_, below_next HBR.out hb2⟩
          by_cases e : t = j
          · subst e; rw [HXJ.out] at hts; cases hts; exact HVT.out
          · exact HA.out t s (by omega) hts
        case measure => simp [intOf]; omega
    · obtain rfl : j = N := by omega
      clear hbr
      go_wp2
      go_ret
      exact ⟨by rw [all_get HN.out HA.out]; rfl, HBR.out⟩
end Go.Proofs.YtlgfickhkejdjaaGreatDoor
