/-
  The reference lexer's next, walked: where neither a name nor a number begins; and the three ways as one.
-/
import Derived.Test.YthbipapihdppmaaDoorLexRefE
import Derived.IntWalk
namespace Go.Proofs.YthbipapihdppmaaDoor
open Go.RowKit

theorem ext_take (s : ByteArray) (k n : Nat) : s.extract k (k + n) = ⟨((rest s k).take n).toArray⟩ := by
  have h : (s.extract k (k + n)).data.toList = (rest s k).take n := by
    rw [Lib.extract_data]
    unfold rest
    rw [show k + n - k = n by omega]
  rw [← h, Lib.mk_data]

def syz (j : Nat) : ByteArray := ⟨(Lex.symbols.getD j []).toArray⟩

theorem symbolAt_two {l : List UInt8} (h : 2 ≤ l.length) (h1 : Lex.symbols.contains (l.take 2) = true) : Lex.symbolAt l = .tok 5 (l.take 2) 0 := by
  unfold Lex.symbolAt; rw [if_pos ⟨h, h1⟩]
theorem symbolAt_one {l : List UInt8} (h : ¬ (2 ≤ l.length ∧ Lex.symbols.contains (l.take 2) = true)) (h1 : Lex.symbols.contains (l.take 1) = true) : Lex.symbolAt l = .tok 5 (l.take 1) 0 := by
  unfold Lex.symbolAt; rw [if_neg h, h1]; rfl
theorem symbolAt_no {l : List UInt8} (h : ¬ (2 ≤ l.length ∧ Lex.symbols.contains (l.take 2) = true)) (h1 : Lex.symbols.contains (l.take 1) = false) : Lex.symbolAt l = .bad 3 := by
  unfold Lex.symbolAt; rw [if_neg h, h1]; rfl

set_option maxRecDepth 100000 in
set_option maxHeartbeats 1000000 in
theorem next_symbol_two (s : ByteArray) (at0 : Nat) (w : World) (hs : s.size ≤ 9223372036854775800) (h1 : at0 < s.size) (htwo : at0 + 2 ≤ s.size) (hl : Lex.letter s[at0] = false) (hd : Lex.digit s[at0] = false) :
    Calls Tryd.prog 25 #[.string s, .int .i64 at0] w fun e w' => e = .returned (gotV at0 (Lex.symbolAt (rest s at0))) ∧ Below w.heap.size w w' := by
  have hlen := rest_len s at0
  have HL := Lib.hid hlen
  have hx2 := ext_take s at0 2
  have hx1 := ext_take s at0 1
  obtain ⟨T2, hT2⟩ : ∃ T, (rest s at0).take 2 = T := ⟨_, rfl⟩
  obtain ⟨T1, hT1⟩ : ∃ T, (rest s at0).take 1 = T := ⟨_, rfl⟩
  rw [hT2] at hx2
  rw [hT1] at hx1
  have HT2 := Lib.hid hT2
  have HT1 := Lib.hid hT1
  have HIN2 := Lib.hid (strs_in Lex.symbols T2 19 rfl)
  have HIN1 := Lib.hid (strs_in Lex.symbols T1 19 rfl)
  clear hlen hT2 hT1
  have hb : decide ((at0 : Int) + 2 ≤ (s.size : Int)) = true := by simp; omega
  go_enter Tryd.func25, Tryd.ntmps25
  go_wp2_with (first | (go_at_call 36; refine (letter_any _ _).mono ?_; rintro e w' ⟨rfl, rfl⟩) | (go_at_call 37; refine (digit_any _ _).mono ?_; rintro e w' ⟨rfl, rfl⟩))
  have w2 : IntKind.i64.wrap ((at0 : Int) + 2) = (at0 : Int) + 2 := IntWalk.i64_in _ (by omega)
  have w3 : (0 : Int) ≤ (at0 : Int) + 2 := by omega
  have w4 : ((at0 : Int) + 2).toNat = at0 + 2 := by omega
  have w5 : (0 : Int) ≤ (at0 : Int) := by omega
  have w6 : (at0 : Int) ≤ (at0 : Int) + 2 := by omega
  have w7 : (at0 : Int) + 2 ≤ (s.size : Int) := by omega
  go_region_held3 (fun w' => True) (go_keep) (first | (go_at_call 20; refine (symbols_any _).mono ?_; rintro e w' ⟨rfl, rfl⟩) | (go_at_call 18; refine (in_any _ 0 19 19 syz _ _ (by omega) (fun j hj => strs_cell Lex.symbols rfl (by simp) j hj)).mono ?_; rintro e w' ⟨rfl, rfl⟩))
  cases hk : inB syz ⟨T2.toArray⟩ 19
  · have hc : Lex.symbols.contains T2 = false := by rw [← HIN2.out]; exact hk
    have HC := Lib.hid hc
    clear hc
    clear w2 w3 w4 w6 w7
    go_wp2
    have y2 : IntKind.i64.wrap ((at0 : Int) + 1) = (at0 : Int) + 1 := IntWalk.i64_in _ (by omega)
    have y3 : (0 : Int) ≤ (at0 : Int) + 1 := by omega
    have y4 : ((at0 : Int) + 1).toNat = at0 + 1 := by omega
    have y6 : (at0 : Int) ≤ (at0 : Int) + 1 := by omega
    have y7 : (at0 : Int) + 1 ≤ (s.size : Int) := by omega
    go_region_held3 (fun w' => True) (go_keep) (first | (go_at_call 20; refine (symbols_any _).mono ?_; rintro e w' ⟨rfl, rfl⟩) | (go_at_call 18; refine (in_any _ 0 19 19 syz _ _ (by omega) (fun j hj => strs_cell Lex.symbols rfl (by simp) j hj)).mono ?_; rintro e w' ⟨rfl, rfl⟩))
    cases hk1 : inB syz ⟨T1.toArray⟩ 19
    · have hc1 : Lex.symbols.contains T1 = false := by rw [← HIN1.out]; exact hk1
      go_wp2
      refine bodyPost_ret (v := .tuple #[tokV 0 [] 0 0, .int .i64 3]) (by simp [results, Tryd.results25, go_sem, tokV]) rfl ⟨?_, ?_⟩
      · rw [symbolAt_no (by rw [HT2.out, HC.out]; simp) (by rw [HT1.out]; exact hc1)]; rfl
      · ((repeat' (first | (with_reducible exact Below.refl _ _) | (with_reducible refine Below.drew ?_) | (with_reducible refine below_drewN ?_ _) | (with_reducible refine Below.alloc ?_ ?_ _) | (with_reducible refine Below.setCell ?_ ?_ _))) <;> (simp <;> omega))
    · have hc1 : Lex.symbols.contains T1 = true := by rw [← HIN1.out]; exact hk1
      go_wp2
      refine bodyPost_ret (v := .tuple #[tokV 5 T1 0 at0, .int .i64 0]) (by simp [results, Tryd.results25, go_sem, tokV]) rfl ⟨?_, ?_⟩
      · rw [symbolAt_one (by rw [HT2.out, HC.out]; simp) (by rw [HT1.out]; exact hc1), HT1.out]; rfl
      · ((repeat' (first | (with_reducible exact Below.refl _ _) | (with_reducible refine Below.drew ?_) | (with_reducible refine below_drewN ?_ _) | (with_reducible refine Below.alloc ?_ ?_ _) | (with_reducible refine Below.setCell ?_ ?_ _))) <;> (simp <;> omega))
  · have hc : Lex.symbols.contains T2 = true := by rw [← HIN2.out]; exact hk
    go_wp2
    refine bodyPost_ret (v := .tuple #[tokV 5 T2 0 at0, .int .i64 0]) (by simp [results, Tryd.results25, go_sem, tokV]) rfl ⟨?_, ?_⟩
    · rw [symbolAt_two (by rw [HL.out]; omega) (by rw [HT2.out]; exact hc), HT2.out]; rfl
    · ((repeat' (first | (with_reducible exact Below.refl _ _) | (with_reducible refine Below.drew ?_) | (with_reducible refine below_drewN ?_ _) | (with_reducible refine Below.alloc ?_ ?_ _) | (with_reducible refine Below.setCell ?_ ?_ _))) <;> (simp <;> omega))
set_option maxRecDepth 100000 in
set_option maxHeartbeats 1000000 in
theorem next_symbol_end (s : ByteArray) (at0 : Nat) (w : World) (hs : s.size ≤ 9223372036854775800) (h1 : at0 < s.size) (htwo : ¬ at0 + 2 ≤ s.size) (hl : Lex.letter s[at0] = false) (hd : Lex.digit s[at0] = false) :
    Calls Tryd.prog 25 #[.string s, .int .i64 at0] w fun e w' => e = .returned (gotV at0 (Lex.symbolAt (rest s at0))) ∧ Below w.heap.size w w' := by
  have hlen := rest_len s at0
  have HL := Lib.hid hlen
  have hx1 := ext_take s at0 1
  obtain ⟨T1, hT1⟩ : ∃ T, (rest s at0).take 1 = T := ⟨_, rfl⟩
  rw [hT1] at hx1
  have HT1 := Lib.hid hT1
  have HIN1 := Lib.hid (strs_in Lex.symbols T1 19 rfl)
  clear hlen hT1
  have hb : decide ((at0 : Int) + 2 ≤ (s.size : Int)) = false := by simp; omega
  go_enter Tryd.func25, Tryd.ntmps25
  go_wp2_with (first | (go_at_call 36; refine (letter_any _ _).mono ?_; rintro e w' ⟨rfl, rfl⟩) | (go_at_call 37; refine (digit_any _ _).mono ?_; rintro e w' ⟨rfl, rfl⟩))
  have w2 : IntKind.i64.wrap ((at0 : Int) + 2) = (at0 : Int) + 2 := IntWalk.i64_in _ (by omega)
  go_quiet (fail)
  clear w2
  go_wp2
  have y2 : IntKind.i64.wrap ((at0 : Int) + 1) = (at0 : Int) + 1 := IntWalk.i64_in _ (by omega)
  have y3 : (0 : Int) ≤ (at0 : Int) + 1 := by omega
  have y4 : ((at0 : Int) + 1).toNat = at0 + 1 := by omega
  have y6 : (at0 : Int) ≤ (at0 : Int) + 1 := by omega
  have y7 : (at0 : Int) + 1 ≤ (s.size : Int) := by omega
  go_region_held3 (fun w' => True) (go_keep) (first | (go_at_call 20; refine (symbols_any _).mono ?_; rintro e w' ⟨rfl, rfl⟩) | (go_at_call 18; refine (in_any _ 0 19 19 syz _ _ (by omega) (fun j hj => strs_cell Lex.symbols rfl (by simp) j hj)).mono ?_; rintro e w' ⟨rfl, rfl⟩))
  cases hk1 : inB syz ⟨T1.toArray⟩ 19
  · have hc1 : Lex.symbols.contains T1 = false := by rw [← HIN1.out]; exact hk1
    go_wp2
    refine bodyPost_ret (v := .tuple #[tokV 0 [] 0 0, .int .i64 3]) (by simp [results, Tryd.results25, go_sem, tokV]) rfl ⟨?_, ?_⟩
    · rw [symbolAt_no (by rw [HL.out]; omega) (by rw [HT1.out]; exact hc1)]; rfl
    · ((repeat' (first | (with_reducible exact Below.refl _ _) | (with_reducible refine Below.drew ?_) | (with_reducible refine below_drewN ?_ _) | (with_reducible refine Below.alloc ?_ ?_ _) | (with_reducible refine Below.setCell ?_ ?_ _))) <;> (simp <;> omega))
  · have hc1 : Lex.symbols.contains T1 = true := by rw [← HIN1.out]; exact hk1
    go_wp2
    refine bodyPost_ret (v := .tuple #[tokV 5 T1 0 at0, .int .i64 0]) (by simp [results, Tryd.results25, go_sem, tokV]) rfl ⟨?_, ?_⟩
    · rw [symbolAt_one (by rw [HL.out]; omega) (by rw [HT1.out]; exact hc1), HT1.out]; rfl
    · ((repeat' (first | (with_reducible exact Below.refl _ _) | (with_reducible refine Below.drew ?_) | (with_reducible refine below_drewN ?_ _) | (with_reducible refine Below.alloc ?_ ?_ _) | (with_reducible refine Below.setCell ?_ ?_ _))) <;> (simp <;> omega))

theorem next_symbol (s : ByteArray) (at0 : Nat) (w : World) (hs : s.size ≤ 9223372036854775800) (h1 : at0 < s.size) (hl : Lex.letter s[at0] = false) (hd : Lex.digit s[at0] = false) :
    Calls Tryd.prog 25 #[.string s, .int .i64 at0] w fun e w' => e = .returned (gotV at0 (Lex.symbolAt (rest s at0))) ∧ Below w.heap.size w w' := by
  by_cases h : at0 + 2 ≤ s.size
  · exact next_symbol_two s at0 w hs h1 h hl hd
  · exact next_symbol_end s at0 w hs h1 h hl hd

/-- next, at whatever byte -/
theorem next_ref (s : ByteArray) (at0 : Int) (w : World) (hs : s.size ≤ 9223372036854775800) (h0 : 0 ≤ at0) (h1 : at0 < s.size) :
    Calls Tryd.prog 25 #[.string s, .int .i64 at0] w fun e w' => e = .returned (gotV at0 (Lex.next (rest s at0.toNat))) ∧ Below w.heap.size w w' := by
  obtain ⟨k, rfl⟩ := Int.eq_ofNat_of_zero_le h0
  rw [Int.toNat_natCast]
  have hk : k < s.size := by omega
  have hh : (rest s k).headD 0 = s[k] := by rw [rest_cons s k hk]; rfl
  unfold Lex.next
  rw [hh]
  cases ha : Lex.letter s[k]
  · cases hb : Lex.digit s[k]
    · exact next_symbol s k w hs hk ha hb
    · exact next_number s k w (by omega) hk ha hb
  · exact next_name s k w (by omega) hk ha
end Go.Proofs.YthbipapihdppmaaDoor
