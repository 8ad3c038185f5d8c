/-
  The reference lexer's next, walked: where a name begins.
-/
import Derived.Test.YthbipapihdppmaaDoorLexRefC
import Derived.Deep.RegionHeld3
import Derived.Deep.QuietTactic
import Derived.BigQuiet
namespace Go.Proofs.YthbipapihdppmaaDoor
open Go.RowKit

/-- a token as a value -/
def tokV (k : Int) (t : List UInt8) (v p : Int) : Value := .agg #[.int .i64 k, .string ⟨t.toArray⟩, .int .i64 v, .int .i64 p]

/-- what next returns -/
def gotV (p : Int) : Lex.Got → Value
  | .bad e => .tuple #[tokV 0 [] 0 0, .int .i64 e]
  | .tok k t v => .tuple #[tokV k t v p, .int .i64 0]

theorem take_takeWhile {α : Type} (p : α → Bool) : ∀ l : List α, l.take (l.takeWhile p).length = l.takeWhile p
  | [] => rfl
  | a :: l => by
    by_cases h : p a
    · simp [h, take_takeWhile p l]
    · simp [h]

/-- where the run of bytes that meet p ends, from place k on -/
def runEnd (p : UInt8 → Bool) (s : ByteArray) (k : Nat) : Nat := k + ((rest s k).takeWhile p).length
theorem runEnd_yes {p : UInt8 → Bool} {s : ByteArray} {k : Nat} (h : k < s.size) (hp : p s[k] = true) : runEnd p s k = runEnd p s (k + 1) := by
  unfold runEnd; rw [rest_cons s k h, List.takeWhile_cons, if_pos hp, List.length_cons]; omega
theorem runEnd_no {p : UInt8 → Bool} {s : ByteArray} {k : Nat} (h : k < s.size) (hp : p s[k] = false) : runEnd p s k = k := by
  unfold runEnd; rw [rest_cons s k h, List.takeWhile_cons, if_neg (by rw [hp]; simp)]; simp
theorem runEnd_end {p : UInt8 → Bool} {s : ByteArray} {k : Nat} (h : s.size ≤ k) : runEnd p s k = k := by
  unfold runEnd; rw [rest_nil s k h]; simp
theorem runEnd_le {p : UInt8 → Bool} {s : ByteArray} {k : Nat} (h : k ≤ s.size) : runEnd p s k ≤ s.size := by
  unfold runEnd
  have := (List.takeWhile_sublist p (l := rest s k)).length_le
  rw [rest_len] at this
  omega
theorem runEnd_ge (p : UInt8 → Bool) (s : ByteArray) (k : Nat) : k ≤ runEnd p s k := by unfold runEnd; omega
theorem run_text (p : UInt8 → Bool) (s : ByteArray) (k : Nat) : s.extract k (runEnd p s k) = ⟨((rest s k).takeWhile p).toArray⟩ := by
  have h : (s.extract k (runEnd p s k)).data.toList = (rest s k).takeWhile p := by
    rw [Lib.extract_data]
    show (rest s k).take _ = _
    unfold runEnd
    rw [show k + ((rest s k).takeWhile p).length - k = ((rest s k).takeWhile p).length by omega]
    exact take_takeWhile p _
  rw [← h, Lib.mk_data]

def kwz (j : Nat) : ByteArray := ⟨(Lex.keywords.getD j []).toArray⟩
theorem strs_cell (ls : List (List UInt8)) {W : World} {h0 : Array Obj} {t : TypeId} {b : Nat} (hW : W.heap = h0.push (.cells ((ls.map fun l => Value.string ⟨l.toArray⟩).toArray) t)) (hb : b = h0.size) (j : Nat) (hj : j < ls.length) :
    W.cell? ⟨b, 0 + j, none⟩ = some (.string ⟨(ls.getD j []).toArray⟩) := by
  rw [Nat.zero_add]
  unfold World.cell?
  simp [hW, hb, hj]
theorem strs_in (ls : List (List UInt8)) (T : List UInt8) (n : Nat) (hn : n = ls.length) : inB (fun j => ⟨(ls.getD j []).toArray⟩) ⟨T.toArray⟩ n = ls.contains T := by
  subst hn
  rw [Bool.eq_iff_iff, List.contains_iff_mem]
  unfold inB
  rw [List.any_eq_true]
  constructor
  · rintro ⟨j, hj, he⟩
    have hk : j < ls.length := by simpa using hj
    have he2 : (⟨(ls.getD j []).toArray⟩ : ByteArray) = ⟨T.toArray⟩ := of_decide_eq_true he
    have : (ls.getD j []) = T := by
      have h3 := congrArg (fun x : ByteArray => x.data.toList) he2
      simpa using h3
    rw [← this, List.getD_eq_getElem?_getD, List.getElem?_eq_getElem hk]
    exact List.getElem_mem hk
  · intro h
    obtain ⟨j, hj, he⟩ := List.getElem_of_mem h
    refine ⟨j, by simpa using hj, ?_⟩
    show decide ((⟨(ls.getD j []).toArray⟩ : ByteArray) = ⟨T.toArray⟩) = true
    rw [List.getD_eq_getElem?_getD, List.getElem?_eq_getElem hj, Option.getD_some, he]
    simp

theorem nameAt_of {l T : List UInt8} (h : l.takeWhile Lex.wordc = T) : Lex.nameAt l = if 31 < T.length then .bad 8 else if Lex.keywords.contains T then .tok 4 T 0 else if (T.headD 0).toNat ≤ 90 then .tok 3 T 0 else .tok 2 T 0 := by
  unfold Lex.nameAt; rw [h]
theorem nameAt_big {l T : List UInt8} (h : l.takeWhile Lex.wordc = T) (h1 : 31 < T.length) : Lex.nameAt l = .bad 8 := by rw [nameAt_of h, if_pos h1]

set_option maxRecDepth 100000 in
set_option maxHeartbeats 1000000 in
theorem next_name (s : ByteArray) (at0 : Nat) (w : World) (hs : s.size ≤ 9223372036854775806) (h1 : at0 < s.size) (hl : Lex.letter s[at0] = true) :
    Calls Tryd.prog 25 #[.string s, .int .i64 at0] w fun e w' => e = .returned (gotV at0 (Lex.nameAt (rest s at0))) ∧ Below w.heap.size w w' := by
  go_enter Tryd.func25, Tryd.ntmps25
  go_wp2_with (go_at_call 36; refine (letter_any _ _).mono ?_; rintro e w' ⟨rfl, rfl⟩)
  go_loop [6] (fun i => ∃ k : Nat, at0 ≤ k ∧ k ≤ s.size ∧ i = .int .i64 k ∧ runEnd Lex.wordc s at0 = runEnd Lex.wordc s k) (fun i => s.size - (intOf i).toNat)
  case atStart => exact ⟨at0, Nat.le_refl _, by omega, rfl, rfl⟩
  case round =>
    obtain ⟨k, hk0, hk, rfl, hr⟩ := hrel
    have HR := Lib.hid hr
    clear hr
    by_cases hw : ∃ h : k < s.size, Lex.wordc s[k] = true
    · obtain ⟨hlt, hw⟩ := hw
      have HW := Lib.hid hw
      have hc : Lex.letter s[k] = true ∨ (Lex.letter s[k] = false ∧ Lex.digit s[k] = true) ∨ (Lex.letter s[k] = false ∧ Lex.digit s[k] = false ∧ ((s[k].toNat : Int) == 95) = true) := by
        unfold Lex.wordc at hw
        cases ha : Lex.letter s[k]
        · cases hb : Lex.digit s[k]
          · rw [ha, hb] at hw
            exact .inr (.inr ⟨rfl, rfl, beq_yes _ _ (by simp at hw; omega)⟩)
          · exact .inr (.inl ⟨rfl, rfl⟩)
        · exact .inl rfl
      clear hw
      rcases hc with hc | ⟨hc1, hc2⟩ | ⟨hc1, hc2, hc3⟩
      all_goals
        go_wp2_with (first | (go_at_call 36; refine (letter_any _ _).mono ?_; rintro e w' ⟨rfl, rfl⟩) | (go_at_call 37; refine (digit_any _ _).mono ?_; rintro e w' ⟨rfl, rfl⟩))
        go_round
        case rel => exact ⟨k + 1, by omega, by omega, by go_num, by rw [HR.out]; exact runEnd_yes hlt HW.out⟩
        case measure => simp [intOf]; omega
    · have hE : runEnd Lex.wordc s at0 = k := by
        rw [HR.out]
        by_cases hlt : k < s.size
        · exact runEnd_no hlt (by cases hx : Lex.wordc s[k] with | false => rfl | true => exact absurd ⟨hlt, hx⟩ hw)
        · exact runEnd_end (by omega)
      have HE := Lib.hid hE
      clear hE
      have hc : ¬ k < s.size ∨ (∃ h : k < s.size, Lex.letter s[k] = false ∧ Lex.digit s[k] = false ∧ ((s[k].toNat : Int) == 95) = false) := by
        by_cases hlt : k < s.size
        · refine .inr ⟨hlt, ?_⟩
          have hx : Lex.wordc s[k] = false := by cases hx : Lex.wordc s[k] with | false => rfl | true => exact absurd ⟨hlt, hx⟩ hw
          unfold Lex.wordc at hx
          simp only [Bool.or_eq_false_iff] at hx
          exact ⟨hx.1.1, hx.1.2, beq_no _ _ (by have := of_decide_eq_false hx.2; omega)⟩
        · exact .inl hlt
      clear hw
      have hext := run_text Lex.wordc s at0
      rw [HE.out] at hext
      obtain ⟨T, hT⟩ : ∃ T, (rest s at0).takeWhile Lex.wordc = T := ⟨_, rfl⟩
      rw [hT] at hext
      have HT := Lib.hid hT
      clear hT
      by_cases hbig : 31 < T.length
      · rcases hc with hc | ⟨hlt, hc1, hc2, hc3⟩
        all_goals
          go_wp2_with (first | (go_at_call 36; refine (letter_any _ _).mono ?_; rintro e w' ⟨rfl, rfl⟩) | (go_at_call 37; refine (digit_any _ _).mono ?_; rintro e w' ⟨rfl, rfl⟩))
          refine bodyPost_ret (v := .tuple #[tokV 0 [] 0 0, .int .i64 8]) (by simp [results, Tryd.results25, go_sem, tokV]) rfl ⟨?_, ?_⟩
          · rw [nameAt_big HT.out hbig]; rfl
          · exact (((Below.refl _ _).alloc (Nat.le_refl _) _).alloc (by simp) _)
      · rcases hc with hc | ⟨hlt, hc1, hc2, hc3⟩
        all_goals
          go_wp2_with (first | (go_at_call 36; refine (letter_any _ _).mono ?_; rintro e w' ⟨rfl, rfl⟩) | (go_at_call 37; refine (digit_any _ _).mono ?_; rintro e w' ⟨rfl, rfl⟩))
          go_region_held3 (fun w' => w'.cell? ⟨w.heap.size + 1, 1, none⟩ = some (.string ⟨T.toArray⟩)) (go_keep) (first | (go_at_call 19; refine (keywords_any _).mono ?_; rintro e w' ⟨rfl, rfl⟩) | (go_at_call 18; refine (in_any _ 0 24 24 kwz _ _ (by omega) (fun j hj => strs_cell Lex.keywords rfl (by simp) j hj)).mono ?_; rintro e w' ⟨rfl, rfl⟩))
          have hin := strs_in Lex.keywords T 24 rfl
          have HIN := Lib.hid hin
          clear hin
          have hhead : (T.headD 0) = s[at0] := by
            rw [← HT.out, rest_cons s at0 h1, List.takeWhile_cons, if_pos (by unfold Lex.wordc; rw [hl]; rfl)]; rfl
          have HH := Lib.hid hhead
          clear hhead
          cases hk : inB kwz ⟨T.toArray⟩ 24
          · have hkc : Lex.keywords.contains T = false := by rw [← HIN.out]; exact hk
            by_cases h90 : s[at0].toNat ≤ 90
            · go_wp2
              refine bodyPost_ret (v := .tuple #[tokV 3 T 0 at0, .int .i64 0]) (by simp [results, Tryd.results25, go_sem, tokV]) rfl ⟨?_, ?_⟩
              · rw [nameAt_of HT.out, if_neg hbig, hkc, HH.out, if_neg (by simp), if_pos h90]; rfl
              · repeat (first | exact Below.refl _ _ | refine Below.drew ?_ | refine Below.alloc ?_ (by simp <;> omega) _ | refine Below.setCell ?_ (by simp <;> omega) _)
            · go_wp2
              refine bodyPost_ret (v := .tuple #[tokV 2 T 0 at0, .int .i64 0]) (by simp [results, Tryd.results25, go_sem, tokV]) rfl ⟨?_, ?_⟩
              · rw [nameAt_of HT.out, if_neg hbig, hkc, HH.out, if_neg (by simp), if_neg h90]; rfl
              · repeat (first | exact Below.refl _ _ | refine Below.drew ?_ | refine Below.alloc ?_ (by simp <;> omega) _ | refine Below.setCell ?_ (by simp <;> omega) _)
          · have hkc : Lex.keywords.contains T = true := by rw [← HIN.out]; exact hk
            go_wp2
            refine bodyPost_ret (v := .tuple #[tokV 4 T 0 at0, .int .i64 0]) (by simp [results, Tryd.results25, go_sem, tokV]) rfl ⟨?_, ?_⟩
            · rw [nameAt_of HT.out, if_neg hbig, hkc, if_pos rfl]; rfl
            · repeat (first | exact Below.refl _ _ | refine Below.drew ?_ | refine Below.alloc ?_ (by simp <;> omega) _ | refine Below.setCell ?_ (by simp <;> omega) _)
end Go.Proofs.YthbipapihdppmaaDoor
