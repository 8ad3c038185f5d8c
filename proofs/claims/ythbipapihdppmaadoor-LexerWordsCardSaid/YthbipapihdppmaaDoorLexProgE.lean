/-
  The program's lexer: number, walked.
-/
import Derived.Test.YthbipapihdppmaaDoorLexProgD
import Derived.Test.YthbipapihdppmaaDoorLexNum
namespace Go.Proofs.YthbipapihdppmaaDoor
open Go.RowKit

theorem digits_of {l T : List UInt8} (h : l.takeWhile Lex.digit = T) : ∀ c ∈ T, 48 ≤ c.toNat ∧ c.toNat ≤ 57 := by
  intro c hc
  rw [← h] at hc
  have := List.all_eq_true.1 (List.all_takeWhile (p := Lex.digit) (l := l)) c hc
  exact of_decide_eq_true this

theorem parse_small (T : List UInt8) (w : World) (hne : T ≠ []) (hd : ∀ c ∈ T, 48 ≤ c.toNat ∧ c.toNat ≤ 57) (hT : T.length ≤ 140737488355328) (hv : Lex.value T < 9223372036854775808) :
    Calls Tryd.prog 45 #[.string ⟨T.toArray⟩, .int .i64 10, .int .i64 64] w fun e w' => e = .returned (.tuple #[.int .i64 (Lex.value T : Nat), .nilIface]) ∧ Below w.heap.size w w' := by
  refine (Tryd.strconv_ParseInt_10_at64_ok ⟨T.toArray⟩ (by rw [Lib.size_eq]; show T.length ≤ _; omega) (Lex.value T) (by show Lib.parseIntB 64 T = _; rw [parseInt_digits T hne hd, if_pos hv]) w).mono ?_
  rintro e w' ⟨rfl, rfl | ⟨t, rfl⟩⟩
  · exact ⟨rfl, Below.refl _ _⟩
  · exact ⟨rfl, Lib.bytesWorld_below _ _ _⟩

theorem parse_large (T : List UInt8) (w : World) (hE : LexEnv w) (hne : T ≠ []) (hd : ∀ c ∈ T, 48 ≤ c.toNat ∧ c.toNat ≤ 57) (hT : T.length ≤ 140737488355328) (hv : ¬ Lex.value T < 9223372036854775808) :
    Calls Tryd.prog 45 #[.string ⟨T.toArray⟩, .int .i64 10, .int .i64 64] w fun e w' => (∃ (x : Int) (u : TypeId) (p : Value), e = .returned (.tuple #[.int .i64 x, .iface u p])) ∧ Below w.heap.size w w' := by
  obtain ⟨te, pe, hc⟩ := hE.er
  refine (Tryd.strconv_ParseInt_10_at64_range ⟨T.toArray⟩ (by rw [Lib.size_eq]; show T.length ≤ _; omega) (by show Lib.parseIntB 64 T = _; rw [parseInt_digits T hne hd, if_neg hv]) _ w hc (.inr ⟨te, pe, rfl⟩)).mono ?_
  rintro e w' ⟨N, rfl, _, _, hb⟩
  exact ⟨⟨_, _, _, rfl⟩, hb⟩

theorem takeWhile_drop_head (l T : List UInt8) : (l.drop T.length).head?.any Lex.tailc = !((l.drop T.length).takeWhile Lex.tailc).isEmpty := by
  cases hd : l.drop T.length with
  | nil => rfl
  | cons a r =>
    simp only [List.head?_cons, Option.any_some, List.takeWhile_cons]
    cases Lex.tailc a <;> rfl

set_option maxRecDepth 100000 in
set_option maxHeartbeats 1000000 in
/-- number, where a digit begins -/
theorem number_any (s : ByteArray) (c : UInt8) (r : List UInt8) (w : World) (hE : LexEnv w) (hs : s.size ≤ 140737488355328) (hl : s.data.toList = c :: r) (hc : Lex.digit c = true) :
    Calls Tryd.prog 30 #[.string s] w fun e w' => e = .returned (gotV 0 (Lex.numberAt s.data.toList)) ∧ Below w.heap.size w w' := by
  obtain ⟨T, hT⟩ : ∃ T, s.data.toList.takeWhile Lex.digit = T := ⟨_, rfl⟩
  have hlen := Lib.size_eq s
  have hTl : T.length ≤ s.size := by rw [← hT, hlen]; exact Lex.takeWhile_le _ _
  have hR : ∀ w0, Calls Tryd.prog 44 #[.string s, .string ⟨#[48, 49, 50, 51, 52, 53, 54, 55, 56, 57]⟩] w0 fun e w' => e = .returned (.string ⟨T.toArray⟩) ∧ Below w0.heap.size w0 w' := by
    intro w0; rw [← hT]; exact run_digit s w0 (by omega)
  obtain ⟨T', hTc⟩ : ∃ T', T = c :: T' := by
    rw [← hT, hl, List.takeWhile_cons, if_pos hc]; exact ⟨_, rfl⟩
  have hget : ∀ h : 0 < (⟨T.toArray⟩ : ByteArray).size, (⟨T.toArray⟩ : ByteArray)[0]'h = c := by rw [hTc]; intro h; rfl
  have hhead : T.headD 0 = c := by rw [hTc]; rfl
  have hne : T ≠ [] := by rw [hTc]; simp
  have hsz : (⟨T.toArray⟩ : ByteArray).size = T.length := by rw [Lib.size_eq]
  have hpos : 1 ≤ T.length := by rw [hTc]; simp
  obtain ⟨R, hRR⟩ : ∃ R, (s.data.toList.drop T.length).takeWhile Lex.tailc = R := ⟨_, rfl⟩
  have hR2 : ∀ w0, Calls Tryd.prog 44 #[.string (s.extract T.length s.size), .string ⟨#[97, 98, 99, 100, 101, 102, 103, 104, 105, 106, 107, 108, 109, 110, 111, 112, 113, 114, 115, 116, 117, 118, 119, 120, 121, 122, 65, 66, 67, 68, 69, 70, 71, 72, 73, 74, 75, 76, 77, 78, 79, 80, 81, 82, 83, 84, 85, 86, 87, 88, 89, 90, 95]⟩] w0 fun e w' => e = .returned (.string ⟨R.toArray⟩) ∧ Below w0.heap.size w0 w' := by
    intro w0
    have h := run_tail (s.extract T.length s.size) w0 (by rw [Lib.size_eq, Lib.extract_data]; simp; omega)
    rw [Lib.extract_to_end, hRR] at h
    exact h
  have htl := takeWhile_drop_head s.data.toList T
  rw [hRR] at htl
  have hdig := digits_of hT
  have HR := Lib.hid hR
  have HT := Lib.hid hT
  have HR2 := Lib.hid hR2
  have HE := Lib.hid hE
  have HTL := Lib.hid htl
  have HD := Lib.hid hdig
  have HH := Lib.hid hhead
  have HNE := Lib.hid hne
  clear hR hT hl hTc hE htl hR2 hlen hRR hdig hhead hne
  by_cases hz : 1 < T.length ∧ T.headD 0 = 48
  · obtain ⟨hz1', hz2'⟩ := hz
    have h48 : ((c.toNat : Int) == 48) = true := by rw [HH.out] at hz2'; rw [hz2']; rfl
    have HZ := Lib.hid hz2'
    clear hz2'
    go_enter Tryd.func30, Tryd.ntmps30
    go_wp2_with fail
    refine (HR.out _).mono ?_; rintro e w1 ⟨rfl, hb⟩; obtain ⟨hc1, hf1⟩ := cell_after w _ _ hb; have hz1 := after1_lt w _ hb; have hB1 := after1 w _ hb
    go_wp2_with fail
    refine bodyPost_ret (v := .tuple #[tokV 0 [] 0 0, .int .i64 3]) (by simp [results, Tryd.results30, go_sem, tokV, hc1]) rfl ⟨?_, ?_⟩
    · cases htl : R.isEmpty
      · rw [numberAt_tail HT.out (by rw [HTL.out, htl]; rfl)]; rfl
      · rw [numberAt_of HT.out (by rw [HTL.out, htl]; rfl), if_pos ⟨hz1', HZ.out⟩]; rfl
    · ((repeat' (first | (with_reducible exact hB1) | (with_reducible exact Below.refl _ _) | (with_reducible refine Below.drew ?_) | (with_reducible refine below_drewN ?_ _) | (with_reducible refine Below.alloc ?_ ?_ _) | (with_reducible refine Below.setCell ?_ ?_ _))) <;> (simp <;> omega))
  · have HZ := Lib.hid hz
    have hz5 : ¬ 1 < T.length ∨ (1 < T.length ∧ ((c.toNat : Int) == 48) = false) := by
      by_cases h : 1 < T.length
      · refine .inr ⟨h, beq_no _ _ fun e => hz ⟨h, ?_⟩⟩
        rw [HH.out]
        exact UInt8.toNat_inj.1 (by show _ = 48; omega)
      · exact .inl h
    clear hz
    cases R with
    | cons a R' =>
      have hne2 : ((⟨(a :: R').toArray⟩ : ByteArray).toList == []) = false := by rw [toList_mk]; rfl
      rcases hz5 with hz5 | ⟨hz5, hz6⟩
      all_goals
        go_enter Tryd.func30, Tryd.ntmps30
        go_wp2_with fail
        refine (HR.out _).mono ?_; rintro e w1 ⟨rfl, hb⟩; obtain ⟨hc1, hf1⟩ := cell_after w _ _ hb; have hz1 := after1_lt w _ hb; have hB1 := after1 w _ hb
        go_wp2_with fail
        refine (HR2.out _).mono ?_; rintro e w2 ⟨rfl, hb2⟩; have hc2 := fun o => (hb2.cell (p := ⟨w.heap.size, o, none⟩) hz1).trans (hc1 o); have hf2 := fun o => (hb2.frozen (p := ⟨w.heap.size, o, none⟩) hz1).trans (hf1 o); have hz2 := Nat.lt_of_lt_of_le hz1 hb2.size; have hB2 := hB1.trans (hb2.mono hB1.size)
        go_wp2_with fail
        refine bodyPost_ret (v := .tuple #[tokV 0 [] 0 0, .int .i64 3]) (by simp [results, Tryd.results30, go_sem, tokV, hc2]) rfl ⟨?_, ?_⟩
        · rw [numberAt_tail HT.out (by rw [HTL.out]; rfl)]; rfl
        · ((repeat' (first | (with_reducible exact hB2) | (with_reducible exact Below.refl _ _) | (with_reducible refine Below.drew ?_) | (with_reducible refine below_drewN ?_ _) | (with_reducible refine Below.alloc ?_ ?_ _) | (with_reducible refine Below.setCell ?_ ?_ _))) <;> (simp <;> omega))
    | nil =>
      have hmax : T.length ≤ 140737488355328 := by omega
      by_cases hv : Lex.value T < 9223372036854775808
      · have HV := Lib.hid hv
        clear hv
        by_cases hm : Lex.value T ≤ 2305843009213693951
        · have hm2 : decide (2305843009213693951 < ((Lex.value T : Nat) : Int)) = false := decide_eq_false (by omega)
          have HM := Lib.hid hm
          rcases hz5 with hz5 | ⟨hz5, hz6⟩
          all_goals
            go_enter Tryd.func30, Tryd.ntmps30
            go_wp2_with fail
            refine (HR.out _).mono ?_; rintro e w1 ⟨rfl, hb⟩; obtain ⟨hc1, hf1⟩ := cell_after w _ _ hb; have hz1 := after1_lt w _ hb; have hB1 := after1 w _ hb
            go_wp2_with fail
            refine (HR2.out _).mono ?_; rintro e w2 ⟨rfl, hb2⟩; have hc2 := fun o => (hb2.cell (p := ⟨w.heap.size, o, none⟩) hz1).trans (hc1 o); have hf2 := fun o => (hb2.frozen (p := ⟨w.heap.size, o, none⟩) hz1).trans (hf1 o); have hz2 := Nat.lt_of_lt_of_le hz1 hb2.size; have hB2 := hB1.trans (hb2.mono hB1.size)
            go_wp2_with fail
            refine (parse_small T _ HNE.out HD.out (by omega) HV.out).mono ?_; rintro e w3 ⟨rfl, hb3⟩; have hc3 := fun o => (hb3.cell (p := ⟨w.heap.size, o, none⟩) hz2).trans (hc2 o); have hf3 := fun o => (hb3.frozen (p := ⟨w.heap.size, o, none⟩) hz2).trans (hf2 o); have hB3 := hB2.trans (hb3.mono hB2.size)
            go_wp2_with fail
            refine bodyPost_ret (v := .tuple #[tokV 1 T (Lex.value T) 0, .int .i64 0]) (by simp [results, Tryd.results30, go_sem, tokV, hc3]) rfl ⟨?_, ?_⟩
            · rw [numberAt_of HT.out (by rw [HTL.out]; rfl), if_neg HZ.out, if_neg (by have := HM.out; omega)]; rfl
            · ((repeat' (first | (with_reducible exact hB3) | (with_reducible exact Below.refl _ _) | (with_reducible refine Below.drew ?_) | (with_reducible refine below_drewN ?_ _) | (with_reducible refine Below.alloc ?_ ?_ _) | (with_reducible refine Below.setCell ?_ ?_ _))) <;> (simp <;> omega))
        · have hm2 : decide (2305843009213693951 < ((Lex.value T : Nat) : Int)) = true := decide_eq_true (by omega)
          have HM := Lib.hid hm
          rcases hz5 with hz5 | ⟨hz5, hz6⟩
          all_goals
            go_enter Tryd.func30, Tryd.ntmps30
            go_wp2_with fail
            refine (HR.out _).mono ?_; rintro e w1 ⟨rfl, hb⟩; obtain ⟨hc1, hf1⟩ := cell_after w _ _ hb; have hz1 := after1_lt w _ hb; have hB1 := after1 w _ hb
            go_wp2_with fail
            refine (HR2.out _).mono ?_; rintro e w2 ⟨rfl, hb2⟩; have hc2 := fun o => (hb2.cell (p := ⟨w.heap.size, o, none⟩) hz1).trans (hc1 o); have hf2 := fun o => (hb2.frozen (p := ⟨w.heap.size, o, none⟩) hz1).trans (hf1 o); have hz2 := Nat.lt_of_lt_of_le hz1 hb2.size; have hB2 := hB1.trans (hb2.mono hB1.size)
            go_wp2_with fail
            refine (parse_small T _ HNE.out HD.out (by omega) HV.out).mono ?_; rintro e w3 ⟨rfl, hb3⟩; have hc3 := fun o => (hb3.cell (p := ⟨w.heap.size, o, none⟩) hz2).trans (hc2 o); have hf3 := fun o => (hb3.frozen (p := ⟨w.heap.size, o, none⟩) hz2).trans (hf2 o); have hB3 := hB2.trans (hb3.mono hB2.size)
            go_wp2_with fail
            refine bodyPost_ret (v := .tuple #[tokV 0 [] 0 0, .int .i64 2]) (by simp [results, Tryd.results30, go_sem, tokV, hc3]) rfl ⟨?_, ?_⟩
            · rw [numberAt_of HT.out (by rw [HTL.out]; rfl), if_neg HZ.out, if_pos (by have := HM.out; omega)]; rfl
            · ((repeat' (first | (with_reducible exact hB3) | (with_reducible exact Below.refl _ _) | (with_reducible refine Below.drew ?_) | (with_reducible refine below_drewN ?_ _) | (with_reducible refine Below.alloc ?_ ?_ _) | (with_reducible refine Below.setCell ?_ ?_ _))) <;> (simp <;> omega))
      · have HV := Lib.hid hv
        clear hv
        rcases hz5 with hz5 | ⟨hz5, hz6⟩
        all_goals
          go_enter Tryd.func30, Tryd.ntmps30
          go_wp2_with fail
          refine (HR.out _).mono ?_; rintro e w1 ⟨rfl, hb⟩; obtain ⟨hc1, hf1⟩ := cell_after w _ _ hb; have hz1 := after1_lt w _ hb; have hB1 := after1 w _ hb
          go_wp2_with fail
          refine (HR2.out _).mono ?_; rintro e w2 ⟨rfl, hb2⟩; have hc2 := fun o => (hb2.cell (p := ⟨w.heap.size, o, none⟩) hz1).trans (hc1 o); have hf2 := fun o => (hb2.frozen (p := ⟨w.heap.size, o, none⟩) hz1).trans (hf1 o); have hz2 := Nat.lt_of_lt_of_le hz1 hb2.size; have hB2 := hB1.trans (hb2.mono hB1.size)
          go_wp2_with fail
          refine (parse_large T _ (HE.out.keep hB2) HNE.out HD.out (by omega) HV.out).mono ?_; rintro e w3 ⟨⟨x, u, p, rfl⟩, hb3⟩; have hc3 := fun o => (hb3.cell (p := ⟨w.heap.size, o, none⟩) hz2).trans (hc2 o); have hf3 := fun o => (hb3.frozen (p := ⟨w.heap.size, o, none⟩) hz2).trans (hf2 o); have hB3 := hB2.trans (hb3.mono hB2.size)
          go_wp2_with fail
          refine bodyPost_ret (v := .tuple #[tokV 0 [] 0 0, .int .i64 2]) (by simp [results, Tryd.results30, go_sem, tokV, hc3]) rfl ⟨?_, ?_⟩
          · rw [numberAt_of HT.out (by rw [HTL.out]; rfl), if_neg HZ.out, if_pos (by have := HV.out; omega)]; rfl
          · ((repeat' (first | (with_reducible exact hB3) | (with_reducible exact Below.refl _ _) | (with_reducible refine Below.drew ?_) | (with_reducible refine below_drewN ?_ _) | (with_reducible refine Below.alloc ?_ ?_ _) | (with_reducible refine Below.setCell ?_ ?_ _))) <;> (simp <;> omega))
end Go.Proofs.YthbipapihdppmaaDoor
