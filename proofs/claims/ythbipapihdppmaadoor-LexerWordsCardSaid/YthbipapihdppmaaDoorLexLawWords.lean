/-
  The law LexerWords, walked.
-/
import Derived.Test.YthbipapihdppmaaDoorLexLawTokens
import Derived.WalkLawsBesides
namespace Go.Proofs.YthbipapihdppmaaDoor
open Go.RowKit

theorem kw_scan : ∀ k, k < 24 → Lex.scan (Lex.keywords.getD k []) = .toks [⟨4, Lex.keywords.getD k [], 0, 0⟩, ⟨0, [], 0, (Lex.keywords.getD k []).length⟩] := by decide +kernel
theorem sy_scan : ∀ k, k < 19 → Lex.scan (Lex.symbols.getD k []) = .toks [⟨5, Lex.symbols.getD k [], 0, 0⟩, ⟨0, [], 0, (Lex.symbols.getD k []).length⟩] := by decide +kernel
theorem kw_in : ∀ k, k < 24 → kwB (Lex.keywords.getD k []) = true := by decide +kernel
theorem kw_size : ∀ k, k < 24 → (Lex.keywords.getD k []).length ≤ 100 := by decide +kernel
theorem sy_size : ∀ k, k < 19 → (Lex.symbols.getD k []).length ≤ 100 := by decide +kernel
theorem kw_less : ∀ k, k < 23 → Op.bytesLess (Lex.keywords.getD k []) (Lex.keywords.getD (k + 1) []) = true := by decide +kernel
theorem sy_less : ∀ k, k < 18 → Op.bytesLess (Lex.symbols.getD k []) (Lex.symbols.getD (k + 1) []) = true := by decide +kernel
theorem str_geq (a b : ByteArray) (w : World) (h : Op.bytesLess a.data.toList b.data.toList = true) : (binOp .geq 9 (.string a) (.string b)).run Tryd.prog w = .ok (.bool false) w := by
  rw [← Lib.toList_data, ← Lib.toList_data] at h
  have h2 : binOp .geq 9 (.string a) (.string b) = pure (.bool !(Op.bytesLess a.toList b.toList)) := by simp [binOp, Op.stringOp]
  rw [h2, h]; rfl

theorem clone_strs (b o c n : Nat) (z : Nat → ByteArray) (w : World) (hn : n ≤ 1000) (hc : ∀ j, j < n → w.cell? ⟨b, o + j, none⟩ = some (.string (z j))) :
    Calls Tryd.prog 26 #[.slice (some ⟨b, o, none⟩) n c] w fun e w' => ∃ v', e = .returned v' ∧ w'.ownsRow w.heap.size 9 1 v' n ((List.range n).map fun j => Value.string (z j)) ∧ v' ≠ .slice none 0 0 ∧ Below w.heap.size w w' := by
  have h := Tryd.slices_Clone_string b o n c ((List.range n).map z) w (by simp) (by omega) (by
    intro j hj
    have hj : j < n := by simpa using hj
    rw [hc j hj, List.getD_eq_getElem?_getD, List.getElem?_map, List.getElem?_range hj]; rfl)
  have e : ((List.range n).map z).take n = (List.range n).map z := List.take_of_length_le (by simp)
  rw [e, List.map_map] at h
  exact h

/-- what Keywords and Symbols return: a new row of strings -/
def StrsAt (w : World) (n : Nat) (z : Nat → ByteArray) (v : Value) : Prop := ∃ g cap, v = .slice (some ⟨g, 0, none⟩) n cap ∧ g < w.heap.size ∧ ∀ j, j < n → w.cell? ⟨g, j, none⟩ = some (.string (z j))
theorem strs_own {w : World} {B n : Nat} {z : Nat → ByteArray} {v : Value} (h : w.ownsRow B 9 1 v n ((List.range n).map fun j => Value.string (z j))) (hne : v ≠ .slice none 0 0) : StrsAt w n z v := by
  have hc := h
  rcases h.2 with ⟨h1, _⟩ | ⟨g, cap, cur, rfl, hb, hg, hn, _⟩
  · exact absurd h1 hne
  · refine ⟨g, cap, rfl, (Array.getElem?_eq_some_iff.1 hg).1, fun j hj => ?_⟩
    have hcell := hc.cells (g := g) rfl j (.string (z j)) (by rw [List.getElem?_map, List.getElem?_range hj]; rfl)
    have hadd : ∀ m, (⟨g, 0, none⟩ : Addr).add m = ⟨g, m, none⟩ := by intro m; unfold Addr.add; split <;> simp_all
    rw [hadd] at hcell
    exact hcell

theorem keywords_prog (w : World) (hE : LexEnv w) : Calls Tryd.prog 15 #[] w fun e w' => ∃ v, e = .returned v ∧ StrsAt w' 24 kwz v ∧ Below w.heap.size w w' := by
  obtain ⟨b, o, c, h1, h2⟩ := hE.kw
  have hC := clone_strs b o c 24 kwz w (by omega) h2
  have HC := Lib.hid hC
  clear hC hE h2
  go_enter Tryd.func15, Tryd.ntmps15
  go_wp2_with fail
  refine HC.out.mono ?_
  rintro e w1 ⟨v, rfl, hown, hne, hb⟩
  have hS := Lib.hid (strs_own hown hne)
  clear hown hne
  go_wp2_with fail
  go_ret
  exact ⟨v, rfl, hS.out, hb⟩
theorem symbols_prog (w : World) (hE : LexEnv w) : Calls Tryd.prog 16 #[] w fun e w' => ∃ v, e = .returned v ∧ StrsAt w' 19 syz v ∧ Below w.heap.size w w' := by
  obtain ⟨b, o, c, h1, h2⟩ := hE.sy
  have hC := clone_strs b o c 19 syz w (by omega) h2
  have HC := Lib.hid hC
  clear hC hE h2
  go_enter Tryd.func16, Tryd.ntmps16
  go_wp2_with fail
  refine HC.out.mono ?_
  rintro e w1 ⟨v, rfl, hown, hne, hb⟩
  have hS := Lib.hid (strs_own hown hne)
  clear hown hne
  go_wp2_with fail
  go_ret
  exact ⟨v, rfl, hS.out, hb⟩

theorem cell_lt1 {w : World} {b o : Nat} {v : Value} (h : w.cell? ⟨b, o, none⟩ = some v) : b < w.heap.size := World.block_lt_of_cell? w ⟨b, o, none⟩ h
theorem kb_same (s : ByteArray) : inB kwz s 24 = kwB s.data.toList := by
  have h := strs_in Lex.keywords s.data.toList 24 rfl
  rw [Lib.mk_data] at h
  exact h
theorem kwz_data (k : Nat) : (kwz k).data.toList = Lex.keywords.getD k [] := rfl
theorem syz_data (k : Nat) : (syz k).data.toList = Lex.symbols.getD k [] := rfl

theorem keywords_ref (w : World) : Calls Tryd.prog 19 #[] w fun e w' => ∃ g, e = .returned (.slice (some ⟨g, 0, none⟩) 24 24) ∧ (∀ j, j < 24 → w'.cell? ⟨g, 0 + j, none⟩ = some (.string (kwz j))) ∧ Below w.heap.size w w' :=
  (keywords_any w).mono fun _ _ ⟨h1, h2⟩ => ⟨_, h1, fun j hj => by rw [h2]; exact strs_cell Lex.keywords rfl (by simp) j hj, by rw [h2]; exact (Below.refl _ _).alloc (Nat.le_refl _) _⟩
theorem symbols_ref (w : World) : Calls Tryd.prog 20 #[] w fun e w' => ∃ g, e = .returned (.slice (some ⟨g, 0, none⟩) 19 19) ∧ Below w.heap.size w w' :=
  (symbols_any w).mono fun _ _ ⟨h1, h2⟩ => ⟨_, h1, by rw [h2]; exact (Below.refl _ _).alloc (Nat.le_refl _) _⟩

set_option maxRecDepth 100000 in
set_option maxHeartbeats 4000000 in
theorem law_words (s : ByteArray) (w : World) (hE : LexEnv w) :
    Calls Tryd.prog 8 #[.string s] w fun e w' => e = .returned (.bool true) ∧ Below w.heap.size w w' := by
  have HE := Lib.hid hE
  clear hE
  have ha : ∀ w0, LexEnv w0 → Calls Tryd.prog 9 #[] w0 fun e w' => e = .returned (.bool true) ∧ Below w0.heap.size w0 w' := fun w0 h => awake_any w0 h
  have HA := Lib.hid ha
  clear ha
  by_cases h1 : 60 < s.size
  · go_enter Tryd.func8, Tryd.ntmps8
    go_wp2_with fail
    refine (HA.out _ HE.out).mono ?_
    rintro e w1 ⟨rfl, hb1⟩
    go_wp2_with fail
    go_ret
    exact ⟨rfl, hb1⟩
  · have h6 : s.size ≤ 60 := by omega
    clear h1
    obtain ⟨kb, hkb⟩ : ∃ kb, kwB s.data.toList = kb := ⟨_, rfl⟩
    have hK : ∀ w0, LexEnv w0 → Calls Tryd.prog 17 #[.string s] w0 fun e w' => e = .returned (.bool kb) ∧ Below w0.heap.size w0 w' := fun w0 h => by
      have := isKeyword_any s w0 h
      rw [hkb] at this
      exact this
    have hI : ∀ b c w0, (∀ j, j < 24 → w0.cell? ⟨b, 0 + j, none⟩ = some (.string (kwz j))) → Calls Tryd.prog 18 #[.slice (some ⟨b, 0, none⟩) 24 c, .string s] w0 fun e w' => e = .returned (.bool kb) ∧ w0 = w' := fun b c w0 h => by
      have := in_any b 0 24 c kwz s w0 (by omega) h
      rw [kb_same, hkb] at this
      exact this
    have HK := Lib.hid hK
    have HI := Lib.hid hI
    clear hK hI hkb
    cases kb
    all_goals
      go_enter Tryd.func8, Tryd.ntmps8
      go_wp2_with fail
      refine (HA.out _ HE.out).mono ?_
      rintro e w1 ⟨rfl, hb1⟩
      have HE1 := Lib.hid (HE.out.keep hb1)
      have s1 := hb1.size
      go_wp2_with fail
      refine (keywords_prog _ HE1.out).mono ?_
      rintro e w2 ⟨v1, rfl, ⟨g1, cap1, rfl, hg1, hc1⟩, hb2⟩
      have HE2 := Lib.hid (HE1.out.keep hb2)
      have HC1 := Lib.hid hc1
      clear hc1
      have s2 := hb2.size
      go_wp2_with fail
      refine (symbols_prog _ HE2.out).mono ?_
      rintro e w3 ⟨v2, rfl, ⟨g2, cap2, rfl, hg2, hc2⟩, hb3⟩
      have HE3 := Lib.hid (HE2.out.keep hb3)
      have HC2 := Lib.hid hc2
      clear hc2
      have s3 := hb3.size
      go_wp2_with fail
      refine (HK.out _ HE3.out).mono ?_
      rintro e w4 ⟨rfl, hb4⟩
      have HE4 := Lib.hid (HE3.out.keep hb4)
      have s4 := hb4.size
      go_wp2_with fail
      refine (keywords_ref _).mono ?_
      rintro e w5 ⟨g5, rfl, hc5, hb5⟩
      have HC5 := Lib.hid hc5
      clear hc5
      have s5 := hb5.size
      go_wp2_with fail
      refine (HI.out _ _ _ HC5.out).mono ?_
      rintro e w5 ⟨rfl, rfl⟩
      go_wp2_with fail
      refine (keywords_ref _).mono ?_
      rintro e w6 ⟨g6, rfl, _, hb6⟩
      have s6 := hb6.size
      go_wp2_with fail
      refine (symbols_ref _).mono ?_
      rintro e w7 ⟨g7, rfl, hb7⟩
      have s7 := hb7.size
      have hB := ((hb4.trans (hb5.mono (by omega))).trans (hb6.mono (by omega))).trans (hb7.mono (by omega))
      have hB0 := ((hb1.trans (hb2.mono (by omega))).trans (hb3.mono (by omega))).trans (hB.mono (by omega))
      have HE7 := Lib.hid (HE3.out.keep hB)
      have HD1 := Lib.hid (fun j hj => ((hb3.trans (hB.mono (by omega))).cell (p := ⟨g1, j, none⟩) hg1).trans (HC1.out j hj))
      have HD2 := Lib.hid (fun j hj => (hB.cell (p := ⟨g2, j, none⟩) hg2).trans (HC2.out j hj))
      have s37 := hB.size
      have hl1 : g1 < w7.heap.size := by omega
      have hl2 : g2 < w7.heap.size := by omega
      clear HE HA HK HI HE1 HE2 HE3 HE4 HC1 HC2 HC5 hb1 hb2 hb3 hb4 hb5 hb6 hb7 hB s1 s2 s3 s4 s5 s6 s7 s37 hg1 hg2
      go_wp2_with fail
      go_loopw [44] (fun i wr => ∃ k : Nat, k ≤ 24 ∧ i = .int .i64 k ∧ Below w7.heap.size w7 wr) (fun i _ => 24 - (intOf i).toNat)
      case atStart => exact ⟨0, by omega, rfl, Below.refl _ _⟩
      case round =>
        obtain ⟨k, hk, rfl, hbel⟩ := hrel
        have hsz := hbel.size
        by_cases hlt : k < 24
        · have hx : wr.cell? ⟨g1, k, none⟩ = some (.string (kwz k)) := (hbel.cell (p := ⟨g1, k, none⟩) hl1).trans (HD1.out k hlt)
          have hsc := kw_scan k hlt
          have hki := kw_in k hlt
          have hks := kw_size k hlt
          rw [← kwz_data, ← Lib.size_eq] at hks
          rw [← kwz_data] at hsc hki
          obtain ⟨x, hxe⟩ : ∃ x, kwz k = x := ⟨_, rfl⟩
          rw [hxe] at hx hsc hki hks
          have HX := Lib.hid hxe
          have HSC := Lib.hid hsc
          have HKI := Lib.hid hki
          have HEr := Lib.hid (HE7.out.keep hbel)
          clear hxe hsc hki
          by_cases hk0 : 0 < k
          · obtain ⟨j, rfl⟩ : ∃ j, k = j + 1 := ⟨k - 1, by omega⟩
            have hy : wr.cell? ⟨g1, j, none⟩ = some (.string (kwz j)) := (hbel.cell (p := ⟨g1, j, none⟩) hl1).trans (HD1.out j (by omega))
            have hq : Op.bytesLess (kwz j).toList x.toList = true := by rw [Lib.toList_data, Lib.toList_data, ← HX.out, kwz_data, kwz_data]; exact kw_less j (by omega)
            have hql := cell_lt1 hy
            obtain ⟨y, hye⟩ : ∃ y, kwz j = y := ⟨_, rfl⟩
            rw [hye] at hy hq
            clear hye HX
            go_wp2_with fail
            refine (scan_any x _ HEr.out (by omega)).mono ?_
            rintro e wa hp
            obtain ⟨ga, capa, rfl, hta, hga1, hga2, hba⟩ := post_toks hp HSC.out
            clear hp
            have sa := hba.size
            obtain ⟨x0, x1, x2, x3⟩ := hta 0 _ rfl
            simp only [Nat.zero_mul, Nat.zero_add, Lib.mk_data] at x0 x1 x2 x3
            have hya := (hba.cell (p := ⟨g1, j, none⟩) hql).trans hy
            clear hta
            go_wp2_with fail
            have hKx := isKeyword_any x wa (HEr.out.keep hba)
            rw [HKI.out] at hKx
            refine hKx.mono ?_
            rintro e wb ⟨rfl, hbb⟩
            have hyb := (hbb.cell (p := ⟨g1, j, none⟩) (Nat.lt_of_lt_of_le hql sa)).trans hya
            go_wp2_with fail
            go_roundw
            case rel => exact ⟨j + 2, by omega, by go_num, (hbel.trans (hba.mono hsz)).trans (hbb.mono (by omega))⟩
            case measure => simp [intOf]; omega
          · obtain rfl : k = 0 := by omega
            clear HX
            go_wp2_with fail
            refine (scan_any x _ HEr.out (by omega)).mono ?_
            rintro e wa hp
            obtain ⟨ga, capa, rfl, hta, hga1, hga2, hba⟩ := post_toks hp HSC.out
            clear hp
            have sa := hba.size
            obtain ⟨x0, x1, x2, x3⟩ := hta 0 _ rfl
            simp only [Nat.zero_mul, Nat.zero_add, Lib.mk_data] at x0 x1 x2 x3
            clear hta
            go_wp2_with fail
            have hKx := isKeyword_any x wa (HEr.out.keep hba)
            rw [HKI.out] at hKx
            refine hKx.mono ?_
            rintro e wb ⟨rfl, hbb⟩
            go_wp2_with fail
            go_roundw
            case rel => exact ⟨1, by omega, by go_num, (hbel.trans (hba.mono hsz)).trans (hbb.mono (by omega))⟩
            case measure => simp [intOf]
        · clear HD1 hl1
          obtain ⟨W, hW⟩ : ∃ W, W = wr := ⟨_, rfl⟩
          subst hW
          go_wp2_with fail
          go_loopw [98] (fun i wr => ∃ k : Nat, k ≤ 19 ∧ i = .int .i64 k ∧ Below w7.heap.size w7 wr) (fun i _ => 19 - (intOf i).toNat)
          case atStart => exact ⟨0, by omega, rfl, hbel⟩
          case round =>
            obtain ⟨k, hk, rfl, hbel⟩ := hrel
            have hsz := hbel.size
            by_cases hlt : k < 19
            · have hx : wr.cell? ⟨g2, k, none⟩ = some (.string (syz k)) := (hbel.cell (p := ⟨g2, k, none⟩) hl2).trans (HD2.out k hlt)
              have hsc := sy_scan k hlt
              have hks := sy_size k hlt
              rw [← syz_data, ← Lib.size_eq] at hks
              rw [← syz_data] at hsc
              obtain ⟨x, hxe⟩ : ∃ x, syz k = x := ⟨_, rfl⟩
              rw [hxe] at hx hsc hks
              have HX := Lib.hid hxe
              have HSC := Lib.hid hsc
              have HEr := Lib.hid (HE7.out.keep hbel)
              clear hxe hsc
              by_cases hk0 : 0 < k
              · obtain ⟨j, rfl⟩ : ∃ j, k = j + 1 := ⟨k - 1, by omega⟩
                have hy : wr.cell? ⟨g2, j, none⟩ = some (.string (syz j)) := (hbel.cell (p := ⟨g2, j, none⟩) hl2).trans (HD2.out j (by omega))
                have hq : Op.bytesLess (syz j).toList x.toList = true := by rw [Lib.toList_data, Lib.toList_data, ← HX.out, syz_data, syz_data]; exact sy_less j (by omega)
                have hql := cell_lt1 hy
                obtain ⟨y, hye⟩ : ∃ y, syz j = y := ⟨_, rfl⟩
                rw [hye] at hy hq
                clear hye HX
                go_wp2_with fail
                refine (scan_any x _ HEr.out (by omega)).mono ?_
                rintro e wa hp
                obtain ⟨ga, capa, rfl, hta, hga1, hga2, hba⟩ := post_toks hp HSC.out
                clear hp
                have sa := hba.size
                obtain ⟨x0, x1, x2, x3⟩ := hta 0 _ rfl
                simp only [Nat.zero_mul, Nat.zero_add, Lib.mk_data] at x0 x1 x2 x3
                have hya := (hba.cell (p := ⟨g2, j, none⟩) hql).trans hy
                clear hta
                go_wp2_with fail
                go_roundw
                case rel => exact ⟨j + 2, by omega, by go_num, hbel.trans (hba.mono hsz)⟩
                case measure => simp [intOf]; omega
              · obtain rfl : k = 0 := by omega
                clear HX
                go_wp2_with fail
                refine (scan_any x _ HEr.out (by omega)).mono ?_
                rintro e wa hp
                obtain ⟨ga, capa, rfl, hta, hga1, hga2, hba⟩ := post_toks hp HSC.out
                clear hp
                have sa := hba.size
                obtain ⟨x0, x1, x2, x3⟩ := hta 0 _ rfl
                simp only [Nat.zero_mul, Nat.zero_add, Lib.mk_data] at x0 x1 x2 x3
                clear hta
                go_wp2_with fail
                go_roundw
                case rel => exact ⟨1, by omega, by go_num, hbel.trans (hba.mono hsz)⟩
                case measure => simp [intOf]
            · go_wp2_with fail
              go_ret
              exact ⟨rfl, hB0.trans (hbel.mono (by have := hB0.size; omega))⟩
end Go.Proofs.YthbipapihdppmaaDoor
