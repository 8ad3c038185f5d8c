/-
  The reference lexer's next, walked: where a number begins.
-/
import Derived.Test.YthbipapihdppmaaDoorLexRefD
namespace Go.Proofs.YthbipapihdppmaaDoor
open Go.RowKit

theorem numberAt_tail {l T : List UInt8} (h : l.takeWhile Lex.digit = T) (h1 : (l.drop T.length).head?.any Lex.tailc = true) : Lex.numberAt l = .bad 3 := by
  unfold Lex.numberAt; rw [h]; rw [if_pos h1]
theorem numberAt_of {l T : List UInt8} (h : l.takeWhile Lex.digit = T) (h1 : (l.drop T.length).head?.any Lex.tailc = false) :
    Lex.numberAt l = if 1 < T.length ∧ T.headD 0 = 48 then .bad 3 else if 2305843009213693951 < Lex.value T then .bad 2 else .tok 1 T (Lex.value T) := by
  unfold Lex.numberAt; rw [h]; simp only [h1, Bool.false_eq_true, if_false]

/-- the error of number, and what next makes of it -/
theorem numberAt_cases {l T : List UInt8} (h : l.takeWhile Lex.digit = T) (h1 : (l.drop T.length).head?.any Lex.tailc = false) :
    (((numR T).2 = 0) ∧ Lex.numberAt l = .tok 1 T (Lex.value T) ∧ (numR T).1 = Lex.value T ∧ Lex.value T ≤ 2305843009213693951) ∨ (∃ e : Nat, (numR T).2 = e ∧ e ≠ 0 ∧ Lex.numberAt l = .bad e) := by
  rw [numberAt_of h h1]
  unfold numR
  by_cases a : 1 < T.length ∧ T.headD 0 = 48
  · exact .inr ⟨3, by rw [if_pos a]; rfl, by omega, by rw [if_pos a]⟩
  · by_cases b : 2305843009213693951 < Lex.value T
    · exact .inr ⟨2, by rw [if_neg a, if_pos b]; rfl, by omega, by rw [if_neg a, if_pos b]⟩
    · exact .inl ⟨by rw [if_neg a, if_neg b], by rw [if_neg a, if_neg b], by rw [if_neg a, if_neg b], by omega⟩

theorem takeWhile_get {p : UInt8 → Bool} {l : List UInt8} {j : Nat} (h : j < (l.takeWhile p).length) : p ((l.takeWhile p)[j]) = true :=
  List.all_eq_true.1 (List.all_takeWhile (p := p) (l := l)) _ (List.getElem_mem h)

set_option maxRecDepth 100000 in
set_option maxHeartbeats 1000000 in
theorem next_number (s : ByteArray) (at0 : Nat) (w : World) (hs : s.size ≤ 9223372036854775806) (h1 : at0 < s.size) (hl : Lex.letter s[at0] = false) (hd : Lex.digit s[at0] = true) :
    Calls Tryd.prog 25 #[.string s, .int .i64 at0] w fun e w' => e = .returned (gotV at0 (Lex.numberAt (rest s at0))) ∧ Below w.heap.size w w' := by
  go_enter Tryd.func25, Tryd.ntmps25
  go_wp2_with (first | (go_at_call 36; refine (letter_any _ _).mono ?_; rintro e w' ⟨rfl, rfl⟩) | (go_at_call 37; refine (digit_any _ _).mono ?_; rintro e w' ⟨rfl, rfl⟩))
  go_loop [6] (fun i => ∃ k : Nat, at0 ≤ k ∧ k ≤ s.size ∧ i = .int .i64 k ∧ runEnd Lex.digit s at0 = runEnd Lex.digit s k) (fun i => s.size - (intOf i).toNat)
  case atStart => exact ⟨at0, Nat.le_refl _, by omega, rfl, rfl⟩
  case round =>
    obtain ⟨k, hk0, hk, rfl, hr⟩ := hrel
    have HR := Lib.hid hr
    clear hr
    by_cases hw : ∃ h : k < s.size, Lex.digit s[k] = true
    · obtain ⟨hlt, hw⟩ := hw
      have HW := Lib.hid hw
      go_wp2_with (first | (go_at_call 36; refine (letter_any _ _).mono ?_; rintro e w' ⟨rfl, rfl⟩) | (go_at_call 37; refine (digit_any _ _).mono ?_; rintro e w' ⟨rfl, rfl⟩))
      go_round
      case rel => exact ⟨k + 1, by omega, by omega, by go_num, by rw [HR.out]; exact runEnd_yes hlt HW.out⟩
      case measure => simp [intOf]; omega
    · have hE : runEnd Lex.digit s at0 = k := by
        rw [HR.out]
        by_cases hlt : k < s.size
        · exact runEnd_no hlt (by cases hx : Lex.digit s[k] with | false => rfl | true => exact absurd ⟨hlt, hx⟩ hw)
        · exact runEnd_end (by omega)
      have HE := Lib.hid hE
      clear hE
      have hc0 : ¬ k < s.size ∨ (∃ h : k < s.size, Lex.digit s[k] = false) := by
        by_cases hlt : k < s.size
        · exact .inr ⟨hlt, by cases hx : Lex.digit s[k] with | false => rfl | true => exact absurd ⟨hlt, hx⟩ hw⟩
        · exact .inl hlt
      clear hw
      have hext := run_text Lex.digit s at0
      obtain ⟨T, hT⟩ : ∃ T, (rest s at0).takeWhile Lex.digit = T := ⟨_, rfl⟩
      have hdrop : (rest s at0).drop T.length = rest s k := by
        have h5 := HE.out
        unfold runEnd at h5
        rw [hT] at h5
        unfold rest
        rw [List.drop_drop, h5]
      have HDROP := Lib.hid hdrop
      clear hdrop
      rw [HE.out, hT] at hext
      have HT := Lib.hid hT
      clear hT
      by_cases htail : ∃ h : k < s.size, Lex.tailc s[k] = true
      · obtain ⟨hlt, htl⟩ := htail
        have hdg : Lex.digit s[k] = false := by rcases hc0 with h | ⟨_, h⟩; exact absurd hlt h; exact h
        have htl2 : Lex.letter s[k] = true ∨ (Lex.letter s[k] = false ∧ ((s[k].toNat : Int) == 95) = true) := by
          unfold Lex.tailc at htl
          cases ha : Lex.letter s[k]
          · rw [ha] at htl
            exact .inr ⟨rfl, beq_yes _ _ (by simp at htl; omega)⟩
          · exact .inl rfl
        have HTL := Lib.hid htl
        clear htl hc0
        rcases htl2 with ha | ⟨ha, hb⟩
        all_goals
          go_wp2_with (first | (go_at_call 36; refine (letter_any _ _).mono ?_; rintro e w' ⟨rfl, rfl⟩) | (go_at_call 37; refine (digit_any _ _).mono ?_; rintro e w' ⟨rfl, rfl⟩))
          refine bodyPost_ret (v := .tuple #[tokV 0 [] 0 0, .int .i64 3]) (by simp [results, Tryd.results25, go_sem, tokV]) rfl ⟨?_, ?_⟩
          · rw [numberAt_tail HT.out (by rw [HDROP.out, rest_cons s k hlt]; exact HTL.out)]; rfl
          · repeat (first | exact Below.refl _ _ | refine Below.drew ?_ | refine Below.alloc ?_ (by simp <;> omega) _ | refine Below.setCell ?_ (by simp <;> omega) _)
      · have hnt : (List.drop T.length (rest s at0)).head?.any Lex.tailc = false := by
          rw [HDROP.out]
          by_cases hlt : k < s.size
          · rw [rest_cons s k hlt]
            show Lex.tailc s[k] = false
            cases hx : Lex.tailc s[k] with | false => rfl | true => exact absurd ⟨hlt, hx⟩ htail
          · rw [rest_nil s k (by omega)]; rfl
        have htl2 : ¬ k < s.size ∨ (∃ h : k < s.size, Lex.digit s[k] = false ∧ Lex.letter s[k] = false ∧ ((s[k].toNat : Int) == 95) = false) := by
          rcases hc0 with h | ⟨hlt, h⟩
          · exact .inl h
          · refine .inr ⟨hlt, h, ?_⟩
            have hx : Lex.tailc s[k] = false := by cases hx : Lex.tailc s[k] with | false => rfl | true => exact absurd ⟨hlt, hx⟩ htail
            unfold Lex.tailc at hx
            simp only [Bool.or_eq_false_iff] at hx
            exact ⟨hx.1, beq_no _ _ (by have := of_decide_eq_false hx.2; omega)⟩
        clear hc0 htail
        have hTl : T.length ≤ s.size := by
          rw [← HT.out]
          have := (List.takeWhile_sublist Lex.digit (l := rest s at0)).length_le
          rw [rest_len] at this
          omega
        have hN : ∀ w0, Calls Tryd.prog 38 #[.string ⟨T.toArray⟩] w0 fun e w' => e = .returned (.tuple #[.int .i64 (numR T).1, .int .i64 (numR T).2]) ∧ w0 = w' := by
          intro w0
          have h := number_ref ⟨T.toArray⟩ w0 (by show T.toArray.size ≤ _; simp; omega) (by
            intro j hj
            have hj2 : j < T.length := by have := hj; rw [Lib.size_eq] at this; simpa using this
            have hj3 : j < ((rest s at0).takeWhile Lex.digit).length := by rw [HT.out]; exact hj2
            have h6 := takeWhile_get hj3
            have h7 : ((rest s at0).takeWhile Lex.digit)[j] = T[j] := by simp only [HT.out]
            rw [h7] at h6
            have h8 := of_decide_eq_true h6
            exact h8)
          simpa using h
        have HTl := Lib.hid hTl
        clear hTl
        rcases numberAt_cases HT.out hnt with ⟨h2, h3, h4, h5⟩ | ⟨e0, h2, h3, h4⟩
        · have H3 := Lib.hid h3
          rw [h2, h4] at hN
          have HN := Lib.hid hN
          clear hN h2 h3 h4 hnt
          rcases htl2 with hc | ⟨hlt, ha, hb, hc⟩
          all_goals
            go_wp2_with (first | (go_at_call 36; refine (letter_any _ _).mono ?_; rintro e w' ⟨rfl, rfl⟩) | (go_at_call 37; refine (digit_any _ _).mono ?_; rintro e w' ⟨rfl, rfl⟩) | (go_at_call 38; refine (HN.out _).mono ?_; rintro e w' ⟨rfl, rfl⟩))
            refine bodyPost_ret (v := .tuple #[tokV 1 T (Lex.value T) at0, .int .i64 0]) (by simp [results, Tryd.results25, go_sem, tokV]) rfl ⟨?_, ?_⟩
            · rw [H3.out]; rfl
            · repeat (first | exact Below.refl _ _ | refine Below.drew ?_ | refine Below.alloc ?_ (by simp <;> omega) _ | refine Below.setCell ?_ (by simp <;> omega) _)
        · have H3 := Lib.hid h4
          rw [h2] at hN
          have HN := Lib.hid hN
          have hne : ((e0 : Int) != 0) = true := by rw [bne_iff_ne]; omega
          have hne2 : ((e0 : Int) == 0) = false := by rw [beq_eq_false_iff_ne]; omega
          clear hN h2 h3 h4 hnt
          rcases htl2 with hc | ⟨hlt, ha, hb, hc⟩
          all_goals
            go_wp2_with (first | (go_at_call 36; refine (letter_any _ _).mono ?_; rintro e w' ⟨rfl, rfl⟩) | (go_at_call 37; refine (digit_any _ _).mono ?_; rintro e w' ⟨rfl, rfl⟩) | (go_at_call 38; refine (HN.out _).mono ?_; rintro e w' ⟨rfl, rfl⟩))
            refine bodyPost_ret (v := .tuple #[tokV 0 [] 0 0, .int .i64 e0]) (by simp [results, Tryd.results25, go_sem, tokV]) rfl ⟨?_, ?_⟩
            · rw [H3.out]; rfl
            · repeat (first | exact Below.refl _ _ | refine Below.drew ?_ | refine Below.alloc ?_ (by simp <;> omega) _ | refine Below.setCell ?_ (by simp <;> omega) _)
end Go.Proofs.YthbipapihdppmaaDoor
