/-
  Several texts in one: LexRefD, LexRefE, LexRefF, LexRefG, LexSpec2, LexRefH.
-/
import Derived.Test.YtdckddkalgnlpaaGreatDoorA1
import Derived.Deep.RegionHeld3
import Derived.Deep.QuietTactic
import Derived.BigQuiet
import Derived.IntWalk
import Derived.Laws.StructEq
namespace Go.Proofs.YtdckddkalgnlpaaGreatDoor
open Go.RowKit
def tokV (k : Int) (t : List UInt8) (v p : Int) : Value := .agg #[.int .i64 k, .string ⟨t.toArray⟩, .int .i64 v, .int .i64 p]
def gotV (p : Int) : Lex.Got → Value
 | .bad e => .tuple #[tokV 0 [] 0 0, .int .i64 e]
 | .tok k t v => .tuple #[tokV k t v p, .int .i64 0]
theorem take_takeWhile {α : Type} (p : α → Bool) : ∀ l : List α, l.take (l.takeWhile p).length = l.takeWhile p
 | [] => rfl
 | a :: l => by
   by_cases h : p a
   ·simp [h, take_takeWhile p l]
   ·simp [h]
def runEnd (p : UInt8 → Bool) (s : ByteArray) (k : Nat) : Nat := k + ((rest s k).takeWhile p).length
theorem runEnd_yes {p : UInt8 → Bool} {s : ByteArray} {k : Nat} (h : k < s.size) (hp : p s[k] = true) : runEnd p s k = runEnd p s (k + 1) := by
 unfold runEnd; rw [rest_cons s k h, List.takeWhile_cons, if_pos hp, List.length_cons]; omega
theorem runEnd_no {p : UInt8 → Bool} {s : ByteArray} {k : Nat} (h : k < s.size) (hp : p s[k] = false) : runEnd p s k = k := by
 unfold runEnd; rw [rest_cons s k h, List.takeWhile_cons, if_neg (by rw [hp]; simp)]; simp
theorem runEnd_end {p : UInt8 → Bool} {s : ByteArray} {k : Nat} (h : s.size ≤ k) : runEnd p s k = k := by
 unfold runEnd; rw [rest_nil s k h]; simp
theorem run_text (p : UInt8 → Bool) (s : ByteArray) (k : Nat) : s.extract k (runEnd p s k) = ⟨((rest s k).takeWhile p).toArray⟩ := by
 have h : (s.extract k (runEnd p s k)).data.toList = (rest s k).takeWhile p := by
  rw [Lib.extract_data]
  show (rest s k).take _ = _
  unfold runEnd
  rw [show k + ((rest s k).takeWhile p).length - k = ((rest s k).takeWhile p).length by omega]
  exact take_takeWhile p _
 rw [← h, Lib.mk_data]
def kwz (j : Nat) : ByteArray := ⟨(Lex.keywords.getD j []).toArray⟩
theorem strs_cell (ls : List (List UInt8)) {W : World} {h0 : Array Obj} {t : TypeId} {b : Nat} (hW : W.heap = h0.push (.cells ((ls.map fun l => Value.string ⟨l.toArray⟩).toArray) t)) (hb : b = h0.size) (j : Nat) (hj : j < ls.length) :
 W.cell? ⟨b, 0 + j, none⟩ = some (.string ⟨(ls.getD j []).toArray⟩) := by
 rw [Nat.zero_add]
 unfold World.cell?
 simp [hW, hb, hj]
theorem strs_in (ls : List (List UInt8)) (T : List UInt8) (n : Nat) (hn : n = ls.length) : inB (fun j => ⟨(ls.getD j []).toArray⟩) ⟨T.toArray⟩ n = ls.contains T := by
 subst hn
 rw [Bool.eq_iff_iff, List.contains_iff_mem]
 unfold inB
 rw [List.any_eq_true]
 constructor
 ·rintro ⟨j, hj, he⟩
  have hk : j < ls.length := by simpa using hj
  have he2 : (⟨(ls.getD j []).toArray⟩ : ByteArray) = ⟨T.toArray⟩ := of_decide_eq_true he
  have : (ls.getD j []) = T := by
   have h3 := congrArg (fun x : ByteArray => x.data.toList) he2
   simpa using h3
  rw [← this, List.getD_eq_getElem?_getD, List.getElem?_eq_getElem hk]
  exact List.getElem_mem hk
 ·intro h
  obtain ⟨j, hj, he⟩ := List.getElem_of_mem h
  refine ⟨j, by simpa using hj, ?_⟩
  show decide ((⟨(ls.getD j []).toArray⟩ : ByteArray) = ⟨T.toArray⟩) = true
  rw [List.getD_eq_getElem?_getD, List.getElem?_eq_getElem hj, Option.getD_some, he]
  simp
theorem nameAt_of {l T : List UInt8} (h : l.takeWhile Lex.wordc = T) : Lex.nameAt l = if 31 < T.length then .bad 8 else if Lex.keywords.contains T then .tok 4 T 0 else if (T.headD 0).toNat ≤ 90 then .tok 3 T 0 else .tok 2 T 0 := by
 unfold Lex.nameAt; rw [h]
theorem nameAt_big {l T : List UInt8} (h : l.takeWhile Lex.wordc = T) (h1 : 31 < T.length) : Lex.nameAt l = .bad 8 := by rw [nameAt_of h, if_pos h1]
set_option maxRecDepth 100000 in
set_option maxHeartbeats 1000000 in
theorem next_name (s : ByteArray) (at0 : Nat) (w : World) (hs : s.size ≤ 9223372036854775806) (h1 : at0 < s.size) (hl : Lex.letter s[at0] = true) :
 Calls Tryz.prog 63 #[.string s, .int .i64 at0] w fun e w' => e = .returned (gotV at0 (Lex.nameAt (rest s at0))) ∧ Below w.heap.size w w' := by
 go_enter Tryz.func63, Tryz.ntmps63
 go_wp2_with (go_at_call 113; refine (letter_any _ _).mono ?_; rintro e w' ⟨rfl, rfl⟩)
 go_loop [6] (fun i => ∃ k : Nat, at0 ≤ k ∧ k ≤ s.size ∧ i = .int .i64 k ∧ runEnd Lex.wordc s at0 = runEnd Lex.wordc s k) (fun i => s.size - (intOf i).toNat)
 case atStart => exact ⟨at0, Nat.le_refl _, by omega, rfl, rfl⟩
 case round =>
  obtain ⟨k, hk0, hk, rfl, hr⟩ := hrel
  have HR := Lib.hid hr
  clear hr
  by_cases hw : ∃ h : k < s.size, Lex.wordc s[k] = true
  ·obtain ⟨hlt, hw⟩ := hw
   have HW := Lib.hid hw
   have hc : Lex.letter s[k] = true ∨ (Lex.letter s[k] = false ∧ Lex.digit s[k] = true) ∨ (Lex.letter s[k] = false ∧ Lex.digit s[k] = false ∧ ((s[k].toNat : Int) == 95) = true) := by
    unfold Lex.wordc at hw
    cases ha : Lex.letter s[k]
    ·cases hb : Lex.digit s[k]
     ·rw [ha, hb] at hw
      exact .inr (.inr ⟨rfl, rfl, beq_yes _ _ (by simp at hw; omega)⟩)
     ·exact .inr (.inl ⟨rfl, rfl⟩)
    ·exact .inl rfl
   clear hw
   rcases hc with hc | ⟨hc1, hc2⟩ | ⟨hc1, hc2, hc3⟩
   all_goals
    go_wp2_with (first | (go_at_call 113; refine (letter_any _ _).mono ?_; rintro e w' ⟨rfl, rfl⟩) | (go_at_call 114; refine (digit_any _ _).mono ?_; rintro e w' ⟨rfl, rfl⟩))
    go_round
    case rel => exact ⟨k + 1, by omega, by omega, by go_num, by rw [HR.out]; exact runEnd_yes hlt HW.out⟩
    case measure => simp [intOf]; omega
  ·have hE : runEnd Lex.wordc s at0 = k := by
    rw [HR.out]
    by_cases hlt : k < s.size
    ·exact runEnd_no hlt (by cases hx : Lex.wordc s[k] with | false => rfl | true => exact absurd ⟨hlt, hx⟩ hw)
    ·exact runEnd_end (by omega)
   have HE := Lib.hid hE
   clear hE
   have hc : ¬ k < s.size ∨ (∃ h : k < s.size, Lex.letter s[k] = false ∧ Lex.digit s[k] = false ∧ ((s[k].toNat : Int) == 95) = false) := by
    by_cases hlt : k < s.size
    ·refine .inr ⟨hlt, ?_⟩
     have hx : Lex.wordc s[k] = false := by cases hx : Lex.wordc s[k] with | false => rfl | true => exact absurd ⟨hlt, hx⟩ hw
     unfold Lex.wordc at hx
     simp only [Bool.or_eq_false_iff] at hx
     exact ⟨hx.1.1, hx.1.2, beq_no _ _ (by have := of_decide_eq_false hx.2; omega)⟩
    ·exact .inl hlt
   clear hw
   have hext := run_text Lex.wordc s at0
   rw [HE.out] at hext
   obtain ⟨T, hT⟩ : ∃ T, (rest s at0).takeWhile Lex.wordc = T := ⟨_, rfl⟩
   rw [hT] at hext
   have HT := Lib.hid hT
   clear hT
   by_cases hbig : 31 < T.length
   ·rcases hc with hc | ⟨hlt, hc1, hc2, hc3⟩
    all_goals
     go_wp2_with (first | (go_at_call 113; refine (letter_any _ _).mono ?_; rintro e w' ⟨rfl, rfl⟩) | (go_at_call 114; refine (digit_any _ _).mono ?_; rintro e w' ⟨rfl, rfl⟩))
     refine bodyPost_ret (v := .tuple #[tokV 0 [] 0 0, .int .i64 8]) (by simp [results, Tryz.results63, go_sem, tokV]) rfl ⟨?_, ?_⟩
     ·rw [nameAt_big HT.out hbig]; rfl
     ·exact (((Below.refl _ _).alloc (Nat.le_refl _) _).alloc (by simp) _)
   ·rcases hc with hc | ⟨hlt, hc1, hc2, hc3⟩
    all_goals
     go_wp2_with (first | (go_at_call 113; refine (letter_any _ _).mono ?_; rintro e w' ⟨rfl, rfl⟩) | (go_at_call 114; refine (digit_any _ _).mono ?_; rintro e w' ⟨rfl, rfl⟩))
     go_region_held3 (fun w' => w'.cell? ⟨w.heap.size + 1, 1, none⟩ = some (.string ⟨T.toArray⟩)) (go_keep) (first | (go_at_call 116; refine (keywords_any _).mono ?_; rintro e w' ⟨rfl, rfl⟩) | (go_at_call 115; refine (in_any _ 0 24 24 kwz _ _ (by omega) (fun j hj => strs_cell Lex.keywords rfl (by simp) j hj)).mono ?_; rintro e w' ⟨rfl, rfl⟩))
     have hin := strs_in Lex.keywords T 24 rfl
     have HIN := Lib.hid hin
     clear hin
     have hhead : (T.headD 0) = s[at0] := by
      rw [← HT.out, rest_cons s at0 h1, List.takeWhile_cons, if_pos (by unfold Lex.wordc; rw [hl]; rfl)]; rfl
     have HH := Lib.hid hhead
     clear hhead
     cases hk : inB kwz ⟨T.toArray⟩ 24
     ·have hkc : Lex.keywords.contains T = false := by rw [← HIN.out]; exact hk
      by_cases h90 : s[at0].toNat ≤ 90
      ·go_wp2
       refine bodyPost_ret (v := .tuple #[tokV 3 T 0 at0, .int .i64 0]) (by simp [results, Tryz.results63, go_sem, tokV]) rfl ⟨?_, ?_⟩
       ·rw [nameAt_of HT.out, if_neg hbig, hkc, HH.out, if_neg (by simp), if_pos h90]; rfl
       ·repeat (first | exact Below.refl _ _ | refine Below.drew ?_ | refine Below.alloc ?_ (by simp <;> omega) _ | refine Below.setCell ?_ (by simp <;> omega) _)
      ·go_wp2
       refine bodyPost_ret (v := .tuple #[tokV 2 T 0 at0, .int .i64 0]) (by simp [results, Tryz.results63, go_sem, tokV]) rfl ⟨?_, ?_⟩
       ·rw [nameAt_of HT.out, if_neg hbig, hkc, HH.out, if_neg (by simp), if_neg h90]; rfl
       ·repeat (first | exact Below.refl _ _ | refine Below.drew ?_ | refine Below.alloc ?_ (by simp <;> omega) _ | refine Below.setCell ?_ (by simp <;> omega) _)
     ·have hkc : Lex.keywords.contains T = true := by rw [← HIN.out]; exact hk
      go_wp2
      refine bodyPost_ret (v := .tuple #[tokV 4 T 0 at0, .int .i64 0]) (by simp [results, Tryz.results63, go_sem, tokV]) rfl ⟨?_, ?_⟩
      ·rw [nameAt_of HT.out, if_neg hbig, hkc, if_pos rfl]; rfl
      ·repeat (first | exact Below.refl _ _ | refine Below.drew ?_ | refine Below.alloc ?_ (by simp <;> omega) _ | refine Below.setCell ?_ (by simp <;> omega) _)
end Go.Proofs.YtdckddkalgnlpaaGreatDoor
namespace Go.Proofs.YtdckddkalgnlpaaGreatDoor
open Go.RowKit
theorem numberAt_tail {l T : List UInt8} (h : l.takeWhile Lex.digit = T) (h1 : (l.drop T.length).head?.any Lex.tailc = true) : Lex.numberAt l = .bad 3 := by
 unfold Lex.numberAt; rw [h]; rw [if_pos h1]
theorem numberAt_of {l T : List UInt8} (h : l.takeWhile Lex.digit = T) (h1 : (l.drop T.length).head?.any Lex.tailc = false) :
 Lex.numberAt l = if 1 < T.length ∧ T.headD 0 = 48 then .bad 3 else if 2305843009213693951 < Lex.value T then .bad 2 else .tok 1 T (Lex.value T) := by
 unfold Lex.numberAt; rw [h]; simp only [h1, Bool.false_eq_true, if_false]
theorem numberAt_cases {l T : List UInt8} (h : l.takeWhile Lex.digit = T) (h1 : (l.drop T.length).head?.any Lex.tailc = false) :
 (((numR T).2 = 0) ∧ Lex.numberAt l = .tok 1 T (Lex.value T) ∧ (numR T).1 = Lex.value T ∧ Lex.value T ≤ 2305843009213693951) ∨ (∃ e : Nat, (numR T).2 = e ∧ e ≠ 0 ∧ Lex.numberAt l = .bad e) := by
 rw [numberAt_of h h1]
 unfold numR
 by_cases a : 1 < T.length ∧ T.headD 0 = 48
 ·exact .inr ⟨3, by rw [if_pos a]; rfl, by omega, by rw [if_pos a]⟩
 ·by_cases b : 2305843009213693951 < Lex.value T
  ·exact .inr ⟨2, by rw [if_neg a, if_pos b]; rfl, by omega, by rw [if_neg a, if_pos b]⟩
  ·exact .inl ⟨by rw [if_neg a, if_neg b], by rw [if_neg a, if_neg b], by rw [if_neg a, if_neg b], by omega⟩
theorem takeWhile_get {p : UInt8 → Bool} {l : List UInt8} {j : Nat} (h : j < (l.takeWhile p).length) : p ((l.takeWhile p)[j]) = true :=
 List.all_eq_true.1 (List.all_takeWhile (p := p) (l := l)) _ (List.getElem_mem h)
set_option maxRecDepth 100000 in
set_option maxHeartbeats 1000000 in
theorem next_number (s : ByteArray) (at0 : Nat) (w : World) (hs : s.size ≤ 9223372036854775806) (h1 : at0 < s.size) (hl : Lex.letter s[at0] = false) (hd : Lex.digit s[at0] = true) :
 Calls Tryz.prog 63 #[.string s, .int .i64 at0] w fun e w' => e = .returned (gotV at0 (Lex.numberAt (rest s at0))) ∧ Below w.heap.size w w' := by
 go_enter Tryz.func63, Tryz.ntmps63
 go_wp2_with (first | (go_at_call 113; refine (letter_any _ _).mono ?_; rintro e w' ⟨rfl, rfl⟩) | (go_at_call 114; refine (digit_any _ _).mono ?_; rintro e w' ⟨rfl, rfl⟩))
 go_loop [6] (fun i => ∃ k : Nat, at0 ≤ k ∧ k ≤ s.size ∧ i = .int .i64 k ∧ runEnd Lex.digit s at0 = runEnd Lex.digit s k) (fun i => s.size - (intOf i).toNat)
 case atStart => exact ⟨at0, Nat.le_refl _, by omega, rfl, rfl⟩
 case round =>
  obtain ⟨k, hk0, hk, rfl, hr⟩ := hrel
  have HR := Lib.hid hr
  clear hr
  by_cases hw : ∃ h : k < s.size, Lex.digit s[k] = true
  ·obtain ⟨hlt, hw⟩ := hw
   have HW := Lib.hid hw
   go_wp2_with (first | (go_at_call 113; refine (letter_any _ _).mono ?_; rintro e w' ⟨rfl, rfl⟩) | (go_at_call 114; refine (digit_any _ _).mono ?_; rintro e w' ⟨rfl, rfl⟩))
   go_round
   case rel => exact ⟨k + 1, by omega, by omega, by go_num, by rw [HR.out]; exact runEnd_yes hlt HW.out⟩
   case measure => simp [intOf]; omega
  ·have hE : runEnd Lex.digit s at0 = k := by
    rw [HR.out]
    by_cases hlt : k < s.size
    ·exact runEnd_no hlt (by cases hx : Lex.digit s[k] with | false => rfl | true => exact absurd ⟨hlt, hx⟩ hw)
    ·exact runEnd_end (by omega)
   have HE := Lib.hid hE
   clear hE
   have hc0 : ¬ k < s.size ∨ (∃ h : k < s.size, Lex.digit s[k] = false) := by
    by_cases hlt : k < s.size
    ·exact .inr ⟨hlt, by cases hx : Lex.digit s[k] with | false => rfl | true => exact absurd ⟨hlt, hx⟩ hw⟩
    ·exact .inl hlt
   clear hw
   have hext := run_text Lex.digit s at0
   obtain ⟨T, hT⟩ : ∃ T, (rest s at0).takeWhile Lex.digit = T := ⟨_, rfl⟩
   have hdrop : (rest s at0).drop T.length = rest s k := by
    have h5 := HE.out
    unfold runEnd at h5
    rw [hT] at h5
    unfold rest
    rw [List.drop_drop, h5]
   have HDROP := Lib.hid hdrop
   clear hdrop
   rw [HE.out, hT] at hext
   have HT := Lib.hid hT
   clear hT
   by_cases htail : ∃ h : k < s.size, Lex.tailc s[k] = true
   ·obtain ⟨hlt, htl⟩ := htail
    have hdg : Lex.digit s[k] = false := by rcases hc0 with h | ⟨_, h⟩; exact absurd hlt h; exact h
    have htl2 : Lex.letter s[k] = true ∨ (Lex.letter s[k] = false ∧ ((s[k].toNat : Int) == 95) = true) := by
     unfold Lex.tailc at htl
     cases ha : Lex.letter s[k]
     ·rw [ha] at htl
      exact .inr ⟨rfl, beq_yes _ _ (by simp at htl; omega)⟩
     ·exact .inl rfl
    have HTL := Lib.hid htl
    clear htl hc0
    rcases htl2 with ha | ⟨ha, hb⟩
    all_goals
     go_wp2_with (first | (go_at_call 113; refine (letter_any _ _).mono ?_; rintro e w' ⟨rfl, rfl⟩) | (go_at_call 114; refine (digit_any _ _).mono ?_; rintro e w' ⟨rfl, rfl⟩))
     refine bodyPost_ret (v := .tuple #[tokV 0 [] 0 0, .int .i64 3]) (by simp [results, Tryz.results63, go_sem, tokV]) rfl ⟨?_, ?_⟩
     ·rw [numberAt_tail HT.out (by rw [HDROP.out, rest_cons s k hlt]; exact HTL.out)]; rfl
     ·repeat (first | exact Below.refl _ _ | refine Below.drew ?_ | refine Below.alloc ?_ (by simp <;> omega) _ | refine Below.setCell ?_ (by simp <;> omega) _)
   ·have hnt : (List.drop T.length (rest s at0)).head?.any Lex.tailc = false := by
     rw [HDROP.out]
     by_cases hlt : k < s.size
     ·rw [rest_cons s k hlt]
      show Lex.tailc s[k] = false
      cases hx : Lex.tailc s[k] with | false => rfl | true => exact absurd ⟨hlt, hx⟩ htail
     ·rw [rest_nil s k (by omega)]; rfl
    have htl2 : ¬ k < s.size ∨ (∃ h : k < s.size, Lex.digit s[k] = false ∧ Lex.letter s[k] = false ∧ ((s[k].toNat : Int) == 95) = false) := by
     rcases hc0 with h | ⟨hlt, h⟩
     ·exact .inl h
     ·refine .inr ⟨hlt, h, ?_⟩
      have hx : Lex.tailc s[k] = false := by cases hx : Lex.tailc s[k] with | false => rfl | true => exact absurd ⟨hlt, hx⟩ htail
      unfold Lex.tailc at hx
      simp only [Bool.or_eq_false_iff] at hx
      exact ⟨hx.1, beq_no _ _ (by have := of_decide_eq_false hx.2; omega)⟩
    clear hc0 htail
    have hTl : T.length ≤ s.size := by
     rw [← HT.out]
     have := (List.takeWhile_sublist Lex.digit (l := rest s at0)).length_le
     rw [rest_len] at this
     omega
    have hN : ∀ w0, Calls Tryz.prog 117 #[.string ⟨T.toArray⟩] w0 fun e w' => e = .returned (.tuple #[.int .i64 (numR T).1, .int .i64 (numR T).2]) ∧ w0 = w' := by
     intro w0
     have h := number_ref ⟨T.toArray⟩ w0 (by show T.toArray.size ≤ _; simp; omega) (by
      intro j hj
      have hj2 : j < T.length := by have := hj; rw [Lib.size_eq] at this; simpa using this
      have hj3 : j < ((rest s at0).takeWhile Lex.digit).length := by rw [HT.out]; exact hj2
      have h6 := takeWhile_get hj3
      have h7 : ((rest s at0).takeWhile Lex.digit)[j] = T[j] := by simp only [HT.out]
      rw [h7] at h6
      have h8 := of_decide_eq_true h6
      exact h8)
     simpa using h
    have HTl := Lib.hid hTl
    clear hTl
    rcases numberAt_cases HT.out hnt with ⟨h2, h3, h4, h5⟩ | ⟨e0, h2, h3, h4⟩
    ·have H3 := Lib.hid h3
     rw [h2, h4] at hN
     have HN := Lib.hid hN
     clear hN h2 h3 h4 hnt
     rcases htl2 with hc | ⟨hlt, ha, hb, hc⟩
     all_goals
      go_wp2_with (first | (go_at_call 113; refine (letter_any _ _).mono ?_; rintro e w' ⟨rfl, rfl⟩) | (go_at_call 114; refine (digit_any _ _).mono ?_; rintro e w' ⟨rfl, rfl⟩) | (go_at_call 117; refine (HN.out _).mono ?_; rintro e w' ⟨rfl, rfl⟩))
      refine bodyPost_ret (v := .tuple #[tokV 1 T (Lex.value T) at0, .int .i64 0]) (by simp [results, Tryz.results63, go_sem, tokV]) rfl ⟨?_, ?_⟩
      ·rw [H3.out]; rfl
      ·repeat (first | exact Below.refl _ _ | refine Below.drew ?_ | refine Below.alloc ?_ (by simp <;> omega) _ | refine Below.setCell ?_ (by simp <;> omega) _)
    ·have H3 := Lib.hid h4
     rw [h2] at hN
     have HN := Lib.hid hN
     have hne : ((e0 : Int) != 0) = true := by rw [bne_iff_ne]; omega
     have hne2 : ((e0 : Int) == 0) = false := by rw [beq_eq_false_iff_ne]; omega
     clear hN h2 h3 h4 hnt
     rcases htl2 with hc | ⟨hlt, ha, hb, hc⟩
     all_goals
      go_wp2_with (first | (go_at_call 113; refine (letter_any _ _).mono ?_; rintro e w' ⟨rfl, rfl⟩) | (go_at_call 114; refine (digit_any _ _).mono ?_; rintro e w' ⟨rfl, rfl⟩) | (go_at_call 117; refine (HN.out _).mono ?_; rintro e w' ⟨rfl, rfl⟩))
      refine bodyPost_ret (v := .tuple #[tokV 0 [] 0 0, .int .i64 e0]) (by simp [results, Tryz.results63, go_sem, tokV]) rfl ⟨?_, ?_⟩
      ·rw [H3.out]; rfl
      ·repeat (first | exact Below.refl _ _ | refine Below.drew ?_ | refine Below.alloc ?_ (by simp <;> omega) _ | refine Below.setCell ?_ (by simp <;> omega) _)
end Go.Proofs.YtdckddkalgnlpaaGreatDoor
namespace Go.Proofs.YtdckddkalgnlpaaGreatDoor
open Go.RowKit
theorem ext_take (s : ByteArray) (k n : Nat) : s.extract k (k + n) = ⟨((rest s k).take n).toArray⟩ := by
 have h : (s.extract k (k + n)).data.toList = (rest s k).take n := by
  rw [Lib.extract_data]
  unfold rest
  rw [show k + n - k = n by omega]
 rw [← h, Lib.mk_data]
def syz (j : Nat) : ByteArray := ⟨(Lex.symbols.getD j []).toArray⟩
theorem symbolAt_two {l : List UInt8} (h : 2 ≤ l.length) (h1 : Lex.symbols.contains (l.take 2) = true) : Lex.symbolAt l = .tok 5 (l.take 2) 0 := by
 unfold Lex.symbolAt; rw [if_pos ⟨h, h1⟩]
theorem symbolAt_one {l : List UInt8} (h : ¬ (2 ≤ l.length ∧ Lex.symbols.contains (l.take 2) = true)) (h1 : Lex.symbols.contains (l.take 1) = true) : Lex.symbolAt l = .tok 5 (l.take 1) 0 := by
 unfold Lex.symbolAt; rw [if_neg h, h1]; rfl
theorem symbolAt_no {l : List UInt8} (h : ¬ (2 ≤ l.length ∧ Lex.symbols.contains (l.take 2) = true)) (h1 : Lex.symbols.contains (l.take 1) = false) : Lex.symbolAt l = .bad 3 := by
 unfold Lex.symbolAt; rw [if_neg h, h1]; rfl
set_option maxRecDepth 100000 in
set_option maxHeartbeats 1000000 in
theorem next_symbol_two (s : ByteArray) (at0 : Nat) (w : World) (hs : s.size ≤ 9223372036854775800) (h1 : at0 < s.size) (htwo : at0 + 2 ≤ s.size) (hl : Lex.letter s[at0] = false) (hd : Lex.digit s[at0] = false) :
 Calls Tryz.prog 63 #[.string s, .int .i64 at0] w fun e w' => e = .returned (gotV at0 (Lex.symbolAt (rest s at0))) ∧ Below w.heap.size w w' := by
 have hlen := rest_len s at0
 have HL := Lib.hid hlen
 have hx2 := ext_take s at0 2
 have hx1 := ext_take s at0 1
 obtain ⟨T2, hT2⟩ : ∃ T, (rest s at0).take 2 = T := ⟨_, rfl⟩
 obtain ⟨T1, hT1⟩ : ∃ T, (rest s at0).take 1 = T := ⟨_, rfl⟩
 rw [hT2] at hx2
 rw [hT1] at hx1
 have HT2 := Lib.hid hT2
 have HT1 := Lib.hid hT1
 have HIN2 := Lib.hid (strs_in Lex.symbols T2 19 rfl)
 have HIN1 := Lib.hid (strs_in Lex.symbols T1 19 rfl)
 clear hlen hT2 hT1
 have hb : decide ((at0 : Int) + 2 ≤ (s.size : Int)) = true := by simp; omega
 go_enter Tryz.func63, Tryz.ntmps63
 go_wp2_with (first | (go_at_call 113; refine (letter_any _ _).mono ?_; rintro e w' ⟨rfl, rfl⟩) | (go_at_call 114; refine (digit_any _ _).mono ?_; rintro e w' ⟨rfl, rfl⟩))
 have w2 : IntKind.i64.wrap ((at0 : Int) + 2) = (at0 : Int) + 2 := IntWalk.i64_in _ (by omega)
 have w3 : (0 : Int) ≤ (at0 : Int) + 2 := by omega
 have w4 : ((at0 : Int) + 2).toNat = at0 + 2 := by omega
 have w5 : (0 : Int) ≤ (at0 : Int) := by omega
 have w6 : (at0 : Int) ≤ (at0 : Int) + 2 := by omega
 have w7 : (at0 : Int) + 2 ≤ (s.size : Int) := by omega
 go_region_held3 (fun w' => True) (go_keep) (first | (go_at_call 118; refine (symbols_any _).mono ?_; rintro e w' ⟨rfl, rfl⟩) | (go_at_call 115; refine (in_any _ 0 19 19 syz _ _ (by omega) (fun j hj => strs_cell Lex.symbols rfl (by simp) j hj)).mono ?_; rintro e w' ⟨rfl, rfl⟩))
 cases hk : inB syz ⟨T2.toArray⟩ 19
 ·have hc : Lex.symbols.contains T2 = false := by rw [← HIN2.out]; exact hk
  have HC := Lib.hid hc
  clear hc
  clear w2 w3 w4 w6 w7
  go_wp2
  have y2 : IntKind.i64.wrap ((at0 : Int) + 1) = (at0 : Int) + 1 := IntWalk.i64_in _ (by omega)
  have y3 : (0 : Int) ≤ (at0 : Int) + 1 := by omega
  have y4 : ((at0 : Int) + 1).toNat = at0 + 1 := by omega
  have y6 : (at0 : Int) ≤ (at0 : Int) + 1 := by omega
  have y7 : (at0 : Int) + 1 ≤ (s.size : Int) := by omega
  go_region_held3 (fun w' => True) (go_keep) (first | (go_at_call 118; refine (symbols_any _).mono ?_; rintro e w' ⟨rfl, rfl⟩) | (go_at_call 115; refine (in_any _ 0 19 19 syz _ _ (by omega) (fun j hj => strs_cell Lex.symbols rfl (by simp) j hj)).mono ?_; rintro e w' ⟨rfl, rfl⟩))
  cases hk1 : inB syz ⟨T1.toArray⟩ 19
  ·have hc1 : Lex.symbols.contains T1 = false := by rw [← HIN1.out]; exact hk1
   go_wp2
   refine bodyPost_ret (v := .tuple #[tokV 0 [] 0 0, .int .i64 3]) (by simp [results, Tryz.results63, go_sem, tokV]) rfl ⟨?_, ?_⟩
   ·rw [symbolAt_no (by rw [HT2.out, HC.out]; simp) (by rw [HT1.out]; exact hc1)]; rfl
   ·((repeat' (first | (with_reducible exact Below.refl _ _) | (with_reducible refine Below.drew ?_) | (with_reducible refine below_drewN ?_ _) | (with_reducible refine Below.alloc ?_ ?_ _) | (with_reducible refine Below.setCell ?_ ?_ _))) <;> (simp <;> omega))
  ·have hc1 : Lex.symbols.contains T1 = true := by rw [← HIN1.out]; exact hk1
   go_wp2
   refine bodyPost_ret (v := .tuple #[tokV 5 T1 0 at0, .int .i64 0]) (by simp [results, Tryz.results63, go_sem, tokV]) rfl ⟨?_, ?_⟩
   ·rw [symbolAt_one (by rw [HT2.out, HC.out]; simp) (by rw [HT1.out]; exact hc1), HT1.out]; rfl
   ·((repeat' (first | (with_reducible exact Below.refl _ _) | (with_reducible refine Below.drew ?_) | (with_reducible refine below_drewN ?_ _) | (with_reducible refine Below.alloc ?_ ?_ _) | (with_reducible refine Below.setCell ?_ ?_ _))) <;> (simp <;> omega))
 ·have hc : Lex.symbols.contains T2 = true := by rw [← HIN2.out]; exact hk
  go_wp2
  refine bodyPost_ret (v := .tuple #[tokV 5 T2 0 at0, .int .i64 0]) (by simp [results, Tryz.results63, go_sem, tokV]) rfl ⟨?_, ?_⟩
  ·rw [symbolAt_two (by rw [HL.out]; omega) (by rw [HT2.out]; exact hc), HT2.out]; rfl
  ·((repeat' (first | (with_reducible exact Below.refl _ _) | (with_reducible refine Below.drew ?_) | (with_reducible refine below_drewN ?_ _) | (with_reducible refine Below.alloc ?_ ?_ _) | (with_reducible refine Below.setCell ?_ ?_ _))) <;> (simp <;> omega))
set_option maxRecDepth 100000 in
set_option maxHeartbeats 1000000 in
theorem next_symbol_end (s : ByteArray) (at0 : Nat) (w : World) (hs : s.size ≤ 9223372036854775800) (h1 : at0 < s.size) (htwo : ¬ at0 + 2 ≤ s.size) (hl : Lex.letter s[at0] = false) (hd : Lex.digit s[at0] = false) :
 Calls Tryz.prog 63 #[.string s, .int .i64 at0] w fun e w' => e = .returned (gotV at0 (Lex.symbolAt (rest s at0))) ∧ Below w.heap.size w w' := by
 have hlen := rest_len s at0
 have HL := Lib.hid hlen
 have hx1 := ext_take s at0 1
 obtain ⟨T1, hT1⟩ : ∃ T, (rest s at0).take 1 = T := ⟨_, rfl⟩
 rw [hT1] at hx1
 have HT1 := Lib.hid hT1
 have HIN1 := Lib.hid (strs_in Lex.symbols T1 19 rfl)
 clear hlen hT1
 have hb : decide ((at0 : Int) + 2 ≤ (s.size : Int)) = false := by simp; omega
 go_enter Tryz.func63, Tryz.ntmps63
 go_wp2_with (first | (go_at_call 113; refine (letter_any _ _).mono ?_; rintro e w' ⟨rfl, rfl⟩) | (go_at_call 114; refine (digit_any _ _).mono ?_; rintro e w' ⟨rfl, rfl⟩))
 have w2 : IntKind.i64.wrap ((at0 : Int) + 2) = (at0 : Int) + 2 := IntWalk.i64_in _ (by omega)
 go_quiet (fail)
 clear w2
 go_wp2
 have y2 : IntKind.i64.wrap ((at0 : Int) + 1) = (at0 : Int) + 1 := IntWalk.i64_in _ (by omega)
 have y3 : (0 : Int) ≤ (at0 : Int) + 1 := by omega
 have y4 : ((at0 : Int) + 1).toNat = at0 + 1 := by omega
 have y6 : (at0 : Int) ≤ (at0 : Int) + 1 := by omega
 have y7 : (at0 : Int) + 1 ≤ (s.size : Int) := by omega
 go_region_held3 (fun w' => True) (go_keep) (first | (go_at_call 118; refine (symbols_any _).mono ?_; rintro e w' ⟨rfl, rfl⟩) | (go_at_call 115; refine (in_any _ 0 19 19 syz _ _ (by omega) (fun j hj => strs_cell Lex.symbols rfl (by simp) j hj)).mono ?_; rintro e w' ⟨rfl, rfl⟩))
 cases hk1 : inB syz ⟨T1.toArray⟩ 19
 ·have hc1 : Lex.symbols.contains T1 = false := by rw [← HIN1.out]; exact hk1
  go_wp2
  refine bodyPost_ret (v := .tuple #[tokV 0 [] 0 0, .int .i64 3]) (by simp [results, Tryz.results63, go_sem, tokV]) rfl ⟨?_, ?_⟩
  ·rw [symbolAt_no (by rw [HL.out]; omega) (by rw [HT1.out]; exact hc1)]; rfl
  ·((repeat' (first | (with_reducible exact Below.refl _ _) | (with_reducible refine Below.drew ?_) | (with_reducible refine below_drewN ?_ _) | (with_reducible refine Below.alloc ?_ ?_ _) | (with_reducible refine Below.setCell ?_ ?_ _))) <;> (simp <;> omega))
 ·have hc1 : Lex.symbols.contains T1 = true := by rw [← HIN1.out]; exact hk1
  go_wp2
  refine bodyPost_ret (v := .tuple #[tokV 5 T1 0 at0, .int .i64 0]) (by simp [results, Tryz.results63, go_sem, tokV]) rfl ⟨?_, ?_⟩
  ·rw [symbolAt_one (by rw [HL.out]; omega) (by rw [HT1.out]; exact hc1), HT1.out]; rfl
  ·((repeat' (first | (with_reducible exact Below.refl _ _) | (with_reducible refine Below.drew ?_) | (with_reducible refine below_drewN ?_ _) | (with_reducible refine Below.alloc ?_ ?_ _) | (with_reducible refine Below.setCell ?_ ?_ _))) <;> (simp <;> omega))
theorem next_symbol (s : ByteArray) (at0 : Nat) (w : World) (hs : s.size ≤ 9223372036854775800) (h1 : at0 < s.size) (hl : Lex.letter s[at0] = false) (hd : Lex.digit s[at0] = false) :
 Calls Tryz.prog 63 #[.string s, .int .i64 at0] w fun e w' => e = .returned (gotV at0 (Lex.symbolAt (rest s at0))) ∧ Below w.heap.size w w' := by
 by_cases h : at0 + 2 ≤ s.size
 ·exact next_symbol_two s at0 w hs h1 h hl hd
 ·exact next_symbol_end s at0 w hs h1 h hl hd
theorem next_ref (s : ByteArray) (at0 : Int) (w : World) (hs : s.size ≤ 9223372036854775800) (h0 : 0 ≤ at0) (h1 : at0 < s.size) :
 Calls Tryz.prog 63 #[.string s, .int .i64 at0] w fun e w' => e = .returned (gotV at0 (Lex.next (rest s at0.toNat))) ∧ Below w.heap.size w w' := by
 obtain ⟨k, rfl⟩ := Int.eq_ofNat_of_zero_le h0
 rw [Int.toNat_natCast]
 have hk : k < s.size := by omega
 have hh : (rest s k).headD 0 = s[k] := by rw [rest_cons s k hk]; rfl
 unfold Lex.next
 rw [hh]
 cases ha : Lex.letter s[k]
 ·cases hb : Lex.digit s[k]
  ·exact next_symbol s k w hs hk ha hb
  ·exact next_number s k w (by omega) hk ha hb
 ·exact next_name s k w (by omega) hk ha
end Go.Proofs.YtdckddkalgnlpaaGreatDoor
namespace Go.Proofs.YtdckddkalgnlpaaGreatDoor
open Go.RowKit
def ToksAt (w : World) (b : Nat) (ts : List Lex.Tok) : Prop :=
 ∀ (j : Nat) (t : Lex.Tok), ts[j]? = some t → w.cell? ⟨b, j * 4, none⟩ = some (.int .i64 t.kind) ∧ w.cell? ⟨b, j * 4 + 1, none⟩ = some (.string ⟨t.text.toArray⟩) ∧
   w.cell? ⟨b, j * 4 + 2, none⟩ = some (.int .i64 t.val) ∧ w.cell? ⟨b, j * 4 + 3, none⟩ = some (.int .i64 t.pos)
end Go.Proofs.YtdckddkalgnlpaaGreatDoor
namespace Go.Proofs.YtdckddkalgnlpaaGreatDoor
namespace Lex
theorem takeWhile_take {α : Type} (p : α → Bool) : ∀ l : List α, l.takeWhile p = l.take (l.takeWhile p).length
 | [] => rfl
 | a :: l => by
   by_cases h : p a
   ·simp [h]; exact takeWhile_take p l
   ·simp [h]
theorem takeWhile_le {α : Type} (p : α → Bool) (l : List α) : (l.takeWhile p).length ≤ l.length := (List.takeWhile_sublist p).length_le
theorem takeWhile_pos {α : Type} (p : α → Bool) (a : α) (l : List α) (h : p a = true) : 1 ≤ ((a :: l).takeWhile p).length := by
 rw [List.takeWhile_cons, if_pos h]; simp
theorem next_text {c : UInt8} {r : Bytes} {k : Nat} {t : Bytes} {v : Nat} (h : next (c :: r) = .tok k t v) : t = (c :: r).take t.length ∧ 1 ≤ t.length ∧ t.length ≤ (c :: r).length := by
 unfold next at h
 rw [List.headD_cons] at h
 by_cases hl : letter c = true
 ·rw [if_pos hl] at h
  unfold nameAt at h
  have h1 := takeWhile_take wordc (c :: r)
  have h2 := takeWhile_le wordc (c :: r)
  have h3 := takeWhile_pos wordc c r (by unfold wordc; rw [hl]; rfl)
  generalize (c :: r).takeWhile wordc = T at h h1 h2 h3
  simp only at h
  split at h
  ·cases h
  ·split at h
   ·cases h; exact ⟨h1, h3, h2⟩
   ·split at h <;> (cases h; exact ⟨h1, h3, h2⟩)
 ·rw [if_neg hl] at h
  by_cases hl : digit c = true
  ·rw [if_pos hl] at h
   unfold numberAt at h
   have h1 := takeWhile_take digit (c :: r)
   have h2 := takeWhile_le digit (c :: r)
   have h3 := takeWhile_pos digit c r hl
   generalize (c :: r).takeWhile digit = T at h h1 h2 h3
   simp only at h
   split at h
   ·cases h
   ·split at h
    ·cases h
    ·split at h
     ·cases h
     ·cases h; exact ⟨h1, h3, h2⟩
  ·rw [if_neg hl] at h
   unfold symbolAt at h
   split at h
   ·rename_i hl
    cases h
    have e : ((c :: r).take 2).length = 2 := by rw [List.length_take]; omega
    rw [e]; exact ⟨rfl, by omega, hl.1⟩
   ·split at h
    ·cases h
     have e : ((c :: r).take 1).length = 1 := by rw [List.length_take]; simp
     rw [e]; exact ⟨rfl, by omega, by simp⟩
    ·cases h
theorem next_bad {l : Bytes} {e : Nat} (h : next l = .bad e) : 0 < e := by
 unfold next at h
 by_cases hl : letter (l.headD 0) = true
 ·rw [if_pos hl] at h
  unfold nameAt at h
  simp only at h
  split at h
  ·cases h; omega
  ·split at h
   ·cases h
   ·split at h <;> cases h
 ·rw [if_neg hl] at h
  by_cases hl : digit (l.headD 0) = true
  ·rw [if_pos hl] at h
   unfold numberAt at h
   simp only at h
   split at h
   ·cases h; omega
   ·split at h
    ·cases h; omega
    ·split at h
     ·cases h; omega
     ·cases h
  ·rw [if_neg hl] at h
   unfold symbolAt at h
   split at h
   ·cases h
   ·split at h
    ·cases h
    ·cases h; omega
def pre (ts : List Tok) : Res → Res
 | .bad a e => .bad a e
 | .toks l => .toks (ts ++ l)
theorem pre_nil (r : Res) : pre [] r = r := by cases r <;> rfl
theorem scanF_nil (n f : Nat) : scanF n f [] = .toks [⟨0, [], 0, n⟩] := by cases f <;> rfl
theorem scanF_bad {n f : Nat} {c : UInt8} {r : Bytes} {e : Nat} (h : next (c :: r) = .bad e) : scanF n (f + 1) (c :: r) = .bad (n - (c :: r).length) e := by
 simp only [scanF, h]
theorem scanF_tok {n f : Nat} {c : UInt8} {r : Bytes} {k : Nat} {t : Bytes} {v : Nat} (h : next (c :: r) = .tok k t v) (ts : List Tok) :
 pre ts (scanF n (f + 1) (c :: r)) = pre (ts ++ [⟨k, t, v, n - (c :: r).length⟩]) (scanF n f (skip false ((c :: r).drop t.length))) := by
 simp only [scanF, h]
 cases scanF n f (skip false ((c :: r).drop t.length)) <;> simp [pre]
end Lex
end Go.Proofs.YtdckddkalgnlpaaGreatDoor
namespace Go.Proofs.YtdckddkalgnlpaaGreatDoor
open Go.RowKit
def tokCells (t : Lex.Tok) : List Value := [.int .i64 (t.kind : Nat), .string ⟨t.text.toArray⟩, .int .i64 (t.val : Nat), .int .i64 (t.pos : Nat)]
def toksCells (ts : List Lex.Tok) : List Value := ts.flatMap tokCells
def ScanPost (s : ByteArray) (w : World) (e : Ending) (w' : World) : Prop :=
 (∃ a er : Nat, Lex.scan s.data.toList = .bad a er ∧ e = .returned (.tuple #[.slice none 0 0, .int .i64 a, .int .i64 er]) ∧ Below w.heap.size w w') ∨
 (∃ (ts : List Lex.Tok) (v : Value), Lex.scan s.data.toList = .toks ts ∧ e = .returned (.tuple #[v, .int .i64 0, .int .i64 0]) ∧ w'.ownsRow w.heap.size 59 4 v ts.length (toksCells ts) ∧ Below w.heap.size w w')
theorem tokInfo : (Tryz.prog.info? 59).map (fun i => (i.zero, i.size, i.bytes)) = some (some (.agg #[.int .i64 0, .string ⟨#[]⟩, .int .i64 0, .int .i64 0]), 4, 40) := by kernel_rfl
theorem toksCells_snoc (ts : List Lex.Tok) (t : Lex.Tok) : toksCells (ts ++ [t]) = toksCells ts ++ tokCells t := by simp [toksCells]
structure ScanInv (s : ByteArray) (B : Nat) (w : World) (k : Nat) (ts : List Lex.Tok) (out : Value) (wr : World) : Prop where
 le : k ≤ s.size
 few : ts.length ≤ k
 own : wr.ownsRow B 59 4 out ts.length (toksCells ts)
 below : Below B w wr
 same : ∃ f, (rest s k).length ≤ f ∧ Lex.scan s.data.toList = Lex.pre ts (Lex.scanF s.size f (rest s k))
set_option maxRecDepth 100000 in
set_option maxHeartbeats 1000000 in
theorem scan_ref_long (s : ByteArray) (w : World) (hs : s.size ≤ 9223372036854775800) (hl : 16384 < s.size) :
 Calls Tryz.prog 27 #[.string s] w (ScanPost s w) := by
 go_enter Tryz.func27, Tryz.ntmps27
 go_wp2
 go_ret3
 exact .inl ⟨0, 8, by unfold Lex.scan; rw [if_pos (by rw [← Lib.size_eq]; exact hl)], rfl, Below.refl _ _⟩
theorem news_cells {W : World} {h0 : Array Obj} {cs : Array Value} {t : TypeId} {b : Nat} (hW : W.heap = h0.push (.cells cs t)) (hb : b = h0.size) (j : Nat) (u : Value) (h : cs.toList[j]? = some u) :
 W.cell? ((⟨b, 0, none⟩ : Addr).add j) = some u := by
 have hadd : (⟨b, 0, none⟩ : Addr).add j = ⟨b, j, none⟩ := by unfold Addr.add; split <;> simp_all
 rw [hadd]
 unfold World.cell?
 simp [hW, hb]
 simpa using h
theorem below_grown {w w' : World} (h : Below w.heap.size w w') : w.grownBy w' none := ⟨h.os, h.tape, h.output, h.size, fun k hk _ => h.block k hk⟩
theorem own_below {w w' : World} {base : Nat} {e : TypeId} {size : Nat} {v : Value} {n : Nat} {xs : List Value} (h : w.ownsRow base e size v n xs) (hb : Below w.heap.size w w') : w'.ownsRow base e size v n xs :=
 h.kept (below_grown hb) (by cases v.ownBlock <;> simp)
theorem rest_skip (s : ByteArray) (k : Nat) (hk : k ≤ s.size) : rest s (s.size - (Lex.skip false (rest s k)).length) = Lex.skip false (rest s k) := by
 have h := Lex.skip_drop false (rest s k)
 have hle := Lex.skip_le false (rest s k)
 rw [rest_len] at h hle
 conv => rhs; rw [h]
 unfold rest
 rw [List.drop_drop]
 congr 1
 unfold rest at hle
 omega
set_option maxRecDepth 100000 in
set_option maxHeartbeats 1000000 in
theorem scan_ref_short (s : ByteArray) (w : World) (hl : s.size ≤ 16384) :
 Calls Tryz.prog 27 #[.string s] w (ScanPost s w) := by
 obtain ⟨i0, hi, hz0, hz1, hz2⟩ := info_parts tokInfo
 go_enter Tryz.func27, Tryz.ntmps27
 go_wp2_with (go_at_call 62; refine (skip_ref _ _ _ (by omega) (by omega) (by omega)).mono ?_; rintro e w' ⟨rfl, rfl⟩)
 go_loopw [5, 6] (fun out i wr => ∃ (k : Nat) (ts : List Lex.Tok), i = .int .i64 k ∧ ScanInv s w.heap.size w k ts out wr) (fun _ i _ => s.size - (intOf i).toNat)
 case atStart =>
  refine ⟨_, [], rfl, ?_⟩
  have h0 : rest s 0 = s.data.toList := by unfold rest; rw [List.drop_zero]
  have hk := rest_skip s 0 (Nat.zero_le _)
  refine ⟨by omega, by simp, World.ownsRow_made w #[] 0 (Nat.le_refl _) (Nat.zero_le _) rfl, (Below.refl _ _).alloc (Nat.le_refl _) _, s.size, by rw [rest_len]; omega, ?_⟩
  rw [Lex.pre_nil]
  unfold Lex.scan
  rw [if_neg (by rw [← Lib.size_eq]; omega), ← Lib.size_eq]
  show Lex.scanF s.size s.size (Lex.skip false s.data.toList) = Lex.scanF s.size s.size (rest s (s.size - (Lex.skip false (rest s 0)).length))
  rw [hk, h0]
 case round =>
  obtain ⟨k, ts, rfl, I⟩ := hrel
  have hk := I.le
  have hfew := I.few
  have hown := I.own
  have hbel := I.below
  have hsz := hbel.size
  by_cases hlt : k < s.size
  ·obtain ⟨f, hf, hsame⟩ := I.same
   clear I
   rw [rest_len] at hf
   obtain ⟨f, rfl⟩ : ∃ g, f = g + 1 := ⟨f - 1, by omega⟩
   have HS := Lib.hid hsame
   clear hsame
   cases hnx : Lex.next (rest s k) with
   | bad er =>
     have hN : ∀ w0, Calls Tryz.prog 63 #[.string s, .int .i64 k] w0 fun e w' => e = .returned (.tuple #[.agg #[.int .i64 0, .string ⟨#[]⟩, .int .i64 0, .int .i64 0], .int .i64 er]) ∧ Below w0.heap.size w0 w' := by
      intro w0
      have h := next_ref s k w0 (by omega) (by omega) (by omega)
      rw [Int.toNat_natCast, hnx] at h
      exact h
     have HN := Lib.hid hN
     have hne : ((er : Int) != 0) = true := by
      rw [bne_iff_ne]
      have := Lex.next_bad hnx
      omega
     have HX := Lib.hid hnx
     clear hN hnx
     go_wp2_with (go_at_call 63; refine (HN.out _).mono ?_; rintro e w1 ⟨rfl, hb1⟩)
     go_ret3
     refine .inl ⟨k, er, ?_, rfl, ?_⟩
     ·rw [HS.out]
      have hx := HX.out
      rw [rest_cons s k hlt] at hx ⊢
      rw [Lex.scanF_bad hx]
      have hl2 := rest_len s k
      rw [rest_cons s k hlt] at hl2
      rw [hl2]
      simp only [Lex.pre]
      congr 1
      omega
     ·exact (hbel.trans (hb1.mono (by omega))).alloc (by have := hb1.size; omega) _
   | tok kd tx vl =>
     have hN : ∀ w0, Calls Tryz.prog 63 #[.string s, .int .i64 k] w0 fun e w' => e = .returned (.tuple #[.agg #[.int .i64 kd, .string ⟨tx.toArray⟩, .int .i64 vl, .int .i64 k], .int .i64 0]) ∧ Below w0.heap.size w0 w' := by
      intro w0
      have h := next_ref s k w0 (by omega) (by omega) (by omega)
      rw [Int.toNat_natCast, hnx] at h
      exact h
     have HN := Lib.hid hN
     have hx := hnx
     have hl2 := rest_len s k
     rw [rest_cons s k hlt] at hx hl2
     obtain ⟨htx, hp, hle⟩ := Lex.next_text hx
     rw [hl2] at hle
     have HX := Lib.hid hx
     have HTX := Lib.hid htx
     have HL2 := Lib.hid hl2
     clear hN hnx hx htx hl2
     go_wp2_with (first
      | (go_at_call 63; refine (HN.out _).mono ?_; rintro e w1 ⟨rfl, hb1⟩; have hown1 := own_below hown hb1; have hs1 := hb1.size)
      | (at_builtin; refine wpList_append_own _ rfl _ _ 37 rfl w.heap.size 59 i0 (.agg #[.int .i64 0, .string ⟨#[]⟩, .int .i64 0, .int .i64 0]) 4 40 Tryz.underlying37 hi hz0 hz1 hz2 rfl (by decide) _ _ _ rfl ((hown1.alloc _).alloc _) ⟨w1.heap.size + 1, 0, none⟩ 1 1 [.int .i64 kd, .string ⟨tx.toArray⟩, .int .i64 vl, .int .i64 k] rfl rfl (news_cells (cs := #[.int .i64 kd, .string ⟨tx.toArray⟩, .int .i64 vl, .int .i64 k]) rfl (by simp)) (by simp [Value.oneCell']) (by unfold maxLen; omega) (by omega) (by simp <;> omega) ?_; intro v' w2 hown2 hgrow _; have hc2 := hgrow.cell (a := ⟨w1.heap.size, 1, none⟩) (v := .string ⟨tx.toArray⟩) (by simp) (fun e => by have := (hown.lt _ e.symm).2; simp at this; omega))
      | (go_at_call 62; refine (skip_ref _ _ _ (by omega) (by omega) (by omega)).mono ?_; rintro e w' ⟨rfl, rfl⟩))
     go_roundw
     case rel =>
      have hk2 := rest_skip s (k + tx.length) (by omega)
      have hle2 := Lex.skip_le false (rest s (k + tx.length))
      rw [rest_len] at hle2
      have e1 : ((k : Int) + (tx.length : Int)).toNat = k + tx.length := by omega
      rw [e1]
      refine ⟨_, ts ++ [⟨kd, tx, vl, k⟩], rfl, ?_⟩
      refine ⟨by omega, by rw [List.length_append, List.length_singleton]; omega, ?_, ?_, f, ?_, ?_⟩
      ·rw [toksCells_snoc, List.length_append]; exact hown2
      ·exact (((hbel.trans (hb1.mono (by omega))).alloc (by omega) _).alloc (by simp <;> omega) _).grown hgrow (by simp <;> omega) fun q hq => (hown.lt q hq).1
      ·rw [hk2]; omega
      ·rw [HS.out, hk2]
       have hx := HX.out
       rw [rest_cons s k hlt, Lex.scanF_tok hx]
       have hl2 := HL2.out
       rw [hl2]
       congr 1
       ·rw [show s.size - (s.size - k) = k by omega]
       ·congr 1
        rw [← rest_cons s k hlt]
        unfold rest
        rw [List.drop_drop]
     case measure =>
      have hle2 := Lex.skip_le false (rest s (k + tx.length))
      rw [rest_len] at hle2
      have e1 : ((k : Int) + (tx.length : Int)).toNat = k + tx.length := by omega
      rw [e1]
      simp [intOf]; omega
  ·go_wp2_with (at_builtin; refine wpList_append_own _ rfl _ _ 37 rfl w.heap.size 59 i0 (.agg #[.int .i64 0, .string ⟨#[]⟩, .int .i64 0, .int .i64 0]) 4 40 Tryz.underlying37 hi hz0 hz1 hz2 rfl (by decide) _ _ _ rfl (hown.alloc _) ⟨wr.heap.size, 0, none⟩ 1 1 [.int .i64 0, .string ⟨#[]⟩, .int .i64 0, .int .i64 s.size] rfl rfl (news_cells (cs := #[.int .i64 0, .string ⟨#[]⟩, .int .i64 0, .int .i64 s.size]) rfl (by simp)) (by simp [Value.oneCell']) (by unfold maxLen; omega) (by omega) (by simp <;> omega) ?_; intro v' w1 hown1 hgrow _)
   go_ret3
   refine .inr ⟨ts ++ [⟨0, [], 0, s.size⟩], v', ?_, rfl, ?_, ?_⟩
   ·obtain ⟨f, hf, hsame⟩ := I.same
    rw [hsame, rest_nil s k (by omega), Lex.scanF_nil]; rfl
   ·rw [toksCells_snoc, List.length_append]; exact hown1
   ·exact (hbel.alloc (by omega) _).grown hgrow (by simp <;> omega) fun q hq => (hown.lt q hq).1
theorem scan_ref (s : ByteArray) (w : World) (hs : s.size ≤ 9223372036854775800) : Calls Tryz.prog 27 #[.string s] w (ScanPost s w) := by
 by_cases h : s.size ≤ 16384
 ·exact scan_ref_short s w h
 ·exact scan_ref_long s w hs (by omega)
end Go.Proofs.YtdckddkalgnlpaaGreatDoor
