/-
  The law LexerErrors, walked.
-/
import Derived.Test.YthbipapihdppmaaDoorLexLawTokens
import Derived.Test.YthbipapihdppmaaDoorLexExt
namespace Go.Proofs.YthbipapihdppmaaDoor
open Go.RowKit

set_option maxRecDepth 100000 in
set_option maxHeartbeats 1000000 in
theorem law_errors (s : ByteArray) (w : World) (hE : LexEnv w) :
    Calls Tryd.prog 6 #[.string s] w fun e w' => e = .returned (.bool true) ∧ Below w.heap.size w w' := by
  have HE := Lib.hid hE
  clear hE
  have ha : ∀ w0, LexEnv w0 → Calls Tryd.prog 9 #[] w0 fun e w' => e = .returned (.bool true) ∧ Below w0.heap.size w0 w' := fun w0 h => awake_any w0 h
  have HA := Lib.hid ha
  clear ha
  by_cases h1 : 300 < s.size
  · go_enter Tryd.func6, Tryd.ntmps6
    go_wp2_with fail
    refine (HA.out _ HE.out).mono ?_
    rintro e w1 ⟨rfl, hb1⟩
    go_wp2_with fail
    go_ret
    exact ⟨rfl, hb1⟩
  · have h6 : s.size ≤ 300 := by omega
    clear h1
    have hs : s.size ≤ 9223372036854775800 := by omega
    cases hsc : Lex.scan s.data.toList with
    | toks ts =>
      have HSC := Lib.hid hsc
      clear hsc
      go_enter Tryd.func6, Tryd.ntmps6
      go_wp2_with fail
      refine (HA.out _ HE.out).mono ?_
      rintro e w1 ⟨rfl, hb1⟩
      go_wp2_with fail
      refine (scan_any s _ (HE.out.keep hb1) hs).mono ?_
      rintro e w2 hp2
      obtain ⟨g1, cap1, rfl, ht1, hg1, hg2, hb2⟩ := post_toks hp2 HSC.out
      clear hp2 ht1
      go_wp2_with fail
      go_ret
      exact ⟨rfl, hb1.trans (hb2.mono hb1.size)⟩
    | bad a er =>
      have hpos : 0 < er := scan_badpos hsc
      have hne : ((er : Int) == 0) = false := by rw [beq_eq_false_iff_ne]; omega
      obtain ⟨hc1, ⟨ts, hc2⟩, hc3⟩ := scan_bad_cut (by rw [← Lib.size_eq]; omega) hsc
      rw [← Lib.size_eq] at hc1
      have q1 : decide ((a : Int) < 0) = false := by simp
      have q2 : decide ((s.size : Int) ≤ (a : Int)) = false := by simp; omega
      have q3 : (0 : Int) ≤ (a : Int) := by omega
      have q4 : (a : Int) ≤ (s.size : Int) := by omega
      have hx : (s.extract 0 a).data.toList = s.data.toList.take a := by rw [Lib.extract_data]; simp
      have hxs : (s.extract 0 a).size ≤ 9223372036854775800 := by rw [Lib.size_eq, hx, List.length_take, ← Lib.size_eq]; omega
      have hy : (s ++ (⟨#[32]⟩ : ByteArray)).data.toList = s.data.toList ++ [32] := by rw [ByteArray.data_append, Array.toList_append]
      have hss : (s ++ (⟨#[32]⟩ : ByteArray)).size ≤ 9223372036854775800 := by rw [Lib.size_eq, hy, List.length_append, ← Lib.size_eq]; simp; omega
      have HY := Lib.hid hy
      have HSS := Lib.hid hss
      have HSC := Lib.hid hsc
      have HX := Lib.hid hx
      have HXS := Lib.hid hxs
      have HC2 := Lib.hid hc2
      have HC3 := Lib.hid hc3
      have HQ : ((er : Int) == (er : Int)) = true := by simp
      clear hsc hpos hx hxs hc2 hc3 hy hss
      go_enter Tryd.func6, Tryd.ntmps6
      go_wp2_with fail
      refine (HA.out _ HE.out).mono ?_
      rintro e w1 ⟨rfl, hb1⟩
      have HE1 := Lib.hid (HE.out.keep hb1)
      go_wp2_with fail
      refine (scan_any s _ HE1.out hs).mono ?_
      rintro e w2 hp2
      obtain ⟨rfl, hb2⟩ := post_bad hp2 HSC.out
      clear hp2
      have HE2 := Lib.hid (HE1.out.keep hb2)
      go_wp2_with fail
      refine (scan_any (s.extract 0 a) _ HE2.out HXS.out).mono ?_
      rintro e w3 hp3
      obtain ⟨g1, cap1, rfl, ht1, hg1, hg2, hb3⟩ := post_toks hp3 (by rw [HX.out]; exact HC2.out)
      clear hp3 ht1
      have HE3 := Lib.hid (HE2.out.keep hb3)
      go_wp2_with fail
      refine (scan_any _ _ HE3.out HSS.out).mono ?_
      rintro e w4 hp4
      obtain ⟨rfl, hb4⟩ := post_bad hp4 (by rw [HY.out]; exact HC3.out)
      clear hp4
      go_wp2_with fail
      go_ret
      have s1 := hb1.size
      have s2 := hb2.size
      have s3 := hb3.size
      exact ⟨by simp, ((hb1.trans (hb2.mono s1)).trans (hb3.mono (by omega))).trans (hb4.mono (by omega))⟩
end Go.Proofs.YthbipapihdppmaaDoor
