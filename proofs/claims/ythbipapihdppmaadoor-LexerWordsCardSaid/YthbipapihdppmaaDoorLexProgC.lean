/-
  The program's lexer: name and symbol, walked.
-/
import Derived.Test.YthbipapihdppmaaDoorLexProgB
namespace Go.Proofs.YthbipapihdppmaaDoor
open Go.RowKit

theorem after1 (w : World) (o : Obj) {w1 : World} (hb : Below (w.alloc o).heap.size (w.alloc o) w1) : Below w.heap.size w w1 :=
  ((Below.refl _ _).alloc (Nat.le_refl _) o).trans (hb.mono (by rw [World.size_alloc]; omega))
theorem after1_lt (w : World) (o : Obj) {w1 : World} (hb : Below (w.alloc o).heap.size (w.alloc o) w1) : w.heap.size < w1.heap.size := by
  have h := hb.size
  rw [World.size_alloc] at h
  omega

theorem cell_after (w : World) (cs : Array Value) (t : TypeId) {w1 : World} (hb : Below (w.alloc (.cells cs t)).heap.size (w.alloc (.cells cs t)) w1) :
    (∀ o, w1.cell? ⟨w.heap.size, o, none⟩ = cs[o]?) ∧ (∀ o, w1.frozen? ⟨w.heap.size, o, none⟩ = false) := by
  have hlt : w.heap.size < (w.alloc (.cells cs t)).heap.size := by rw [World.size_alloc]; omega
  refine ⟨fun o => ?_, fun o => ?_⟩
  · rw [hb.cell (p := ⟨w.heap.size, o, none⟩) hlt, World.cell?_alloc_new]
  · rw [hb.frozen (p := ⟨w.heap.size, o, none⟩) hlt]
    unfold World.frozen?
    simp only [heap_alloc_new]
    simp
theorem cell_pass {b : Nat} {cs : Array Value} {w1 : World} (h : ∀ o, w1.cell? ⟨b, o, none⟩ = cs[o]?) (hf : ∀ o, w1.frozen? ⟨b, o, none⟩ = false) (X : Obj) {w2 : World} (hb : Below (w1.alloc X).heap.size (w1.alloc X) w2) (hlt : b < w1.heap.size) :
    (∀ o, w2.cell? ⟨b, o, none⟩ = cs[o]?) ∧ (∀ o, w2.frozen? ⟨b, o, none⟩ = false) := by
  have hlt2 : b < (w1.alloc X).heap.size := by rw [World.size_alloc]; omega
  refine ⟨fun o => ?_, fun o => ?_⟩
  · rw [hb.cell (p := ⟨b, o, none⟩) hlt2, ← h o]
    exact World.cell?_of_block (w := w1) (Below.heap_alloc w1 X b hlt)
  · rw [hb.frozen (p := ⟨b, o, none⟩) hlt2, ← hf o]
    exact World.frozen?_of_block (w := w1) (Below.heap_alloc w1 X b hlt)

set_option maxRecDepth 100000 in
set_option maxHeartbeats 1000000 in
/-- name, where a letter begins -/
theorem name_any (s : ByteArray) (c : UInt8) (r : List UInt8) (w : World) (hE : LexEnv w) (hs : s.size ≤ 9223372036854775806) (hl : s.data.toList = c :: r) (hc : Lex.letter c = true) :
    Calls Tryd.prog 31 #[.string s] w fun e w' => e = .returned (gotV 0 (Lex.nameAt s.data.toList)) ∧ Below w.heap.size w w' := by
  obtain ⟨T, hT⟩ : ∃ T, s.data.toList.takeWhile Lex.wordc = T := ⟨_, rfl⟩
  have hR : ∀ w0, Calls Tryd.prog 44 #[.string s, .string ⟨#[97, 98, 99, 100, 101, 102, 103, 104, 105, 106, 107, 108, 109, 110, 111, 112, 113, 114, 115, 116, 117, 118, 119, 120, 121, 122, 65, 66, 67, 68, 69, 70, 71, 72, 73, 74, 75, 76, 77, 78, 79, 80, 81, 82, 83, 84, 85, 86, 87, 88, 89, 90, 48, 49, 50, 51, 52, 53, 54, 55, 56, 57, 95]⟩] w0 fun e w' => e = .returned (.string ⟨T.toArray⟩) ∧ Below w0.heap.size w0 w' := by
    intro w0; rw [← hT]; exact run_word s w0 (by omega)
  obtain ⟨T', hTc⟩ : ∃ T', T = c :: T' := by
    rw [← hT, hl, List.takeWhile_cons, if_pos (by unfold Lex.wordc; rw [hc]; rfl)]; exact ⟨_, rfl⟩
  have hhead : T.headD 0 = c := by rw [hTc]; rfl
  have hone : (⟨T.toArray⟩ : ByteArray).extract 0 1 = ⟨#[c]⟩ := by
    apply bytes_eq; rw [Lib.extract_data]; show (T.drop 0).take 1 = [c]; rw [hTc]; rfl
  have hsz : (⟨T.toArray⟩ : ByteArray).size = T.length := by rw [Lib.size_eq]
  have hpos : 1 ≤ T.length := by rw [hTc]; simp
  have hU : ∀ w0, Calls Tryd.prog 46 #[.string ⟨#[65, 66, 67, 68, 69, 70, 71, 72, 73, 74, 75, 76, 77, 78, 79, 80, 81, 82, 83, 84, 85, 86, 87, 88, 89, 90]⟩, .string ⟨#[c]⟩] w0 fun e w' => e = .returned (.bool (decide (c.toNat ≤ 90))) ∧ w' = w0 := by
    intro w0
    have h := Tryd.strings_Contains_one ⟨#[65, 66, 67, 68, 69, 70, 71, 72, 73, 74, 75, 76, 77, 78, 79, 80, 81, 82, 83, 84, 85, 86, 87, 88, 89, 90]⟩ c w0
    rw [← upper_index c hc]
    exact h
  have hKw : ∀ w0, LexEnv w0 → Calls Tryd.prog 17 #[.string ⟨T.toArray⟩] w0 fun e w' => e = .returned (.bool (kwB T)) ∧ Below w0.heap.size w0 w' := by
    intro w0 h0; exact isKeyword_any ⟨T.toArray⟩ w0 h0
  have HR := Lib.hid hR
  have HT := Lib.hid hT
  have HU := Lib.hid hU
  have HK := Lib.hid hKw
  have HH := Lib.hid hhead
  have HE := Lib.hid hE
  clear hR hT hl hU hTc hhead hKw hE
  by_cases hbig : 31 < T.length
  · go_enter Tryd.func31, Tryd.ntmps31
    go_wp2_with (go_at_call 44; refine (HR.out _).mono ?_; rintro e w1 ⟨rfl, hb⟩; obtain ⟨hc1, hf1⟩ := cell_after w _ _ hb; have hz1 := after1_lt w _ hb; have hB1 := after1 w _ hb)
    refine bodyPost_ret (v := .tuple #[tokV 0 [] 0 0, .int .i64 8]) (by simp [results, Tryd.results31, go_sem, tokV, hc1, hz1]) rfl ⟨?_, ?_⟩
    · rw [nameAt_big HT.out hbig]; rfl
    · ((repeat' (first | (with_reducible exact hB1) | (with_reducible exact Below.refl _ _) | (with_reducible refine Below.drew ?_) | (with_reducible refine below_drewN ?_ _) | (with_reducible refine Below.alloc ?_ ?_ _) | (with_reducible refine Below.setCell ?_ ?_ _))) <;> (simp <;> omega))
  · cases hk : kwB T
    · have hk2 := Lib.hid hk
      by_cases h90 : c.toNat ≤ 90
      · have hd := decide_eq_true h90
        go_enter Tryd.func31, Tryd.ntmps31
        go_wp2_with (first | (go_at_call 44; refine (HR.out _).mono ?_; rintro e w1 ⟨rfl, hb⟩; obtain ⟨hc1, hf1⟩ := cell_after w _ _ hb; have hz1 := after1_lt w _ hb; have hB1 := after1 w _ hb) | (go_at_call 17; refine (HK.out _ (HE.out.keep (hB1.alloc (Nat.le_of_lt hz1) _))).mono ?_; rintro e w2 ⟨rfl, hb2⟩; obtain ⟨hc2, hf2⟩ := cell_after w1 _ _ hb2; obtain ⟨hc3, hf3⟩ := cell_pass hc1 hf1 _ hb2 hz1; have hz2 := after1_lt w1 _ hb2; have hB2 := hB1.trans ((after1 w1 _ hb2).mono (Nat.le_of_lt hz1))) | (go_at_call 46; refine (HU.out _).mono ?_; rintro e w' ⟨rfl, hw'⟩; rw [hw']))
        refine bodyPost_ret (v := .tuple #[tokV 3 T 0 0, .int .i64 0]) (by simp [results, Tryd.results31, go_sem, tokV, hc3]) rfl ⟨?_, ?_⟩
        · rw [nameAt_of HT.out, if_neg hbig, HH.out, show Lex.keywords.contains T = false from hk2.out, if_neg (by simp), if_pos h90]; rfl
        · ((repeat' (first | (with_reducible exact hB2) | (with_reducible exact Below.refl _ _) | (with_reducible refine Below.drew ?_) | (with_reducible refine below_drewN ?_ _) | (with_reducible refine Below.alloc ?_ ?_ _) | (with_reducible refine Below.setCell ?_ ?_ _))) <;> (simp <;> omega))
      · have hd := decide_eq_false h90
        go_enter Tryd.func31, Tryd.ntmps31
        go_wp2_with (first | (go_at_call 44; refine (HR.out _).mono ?_; rintro e w1 ⟨rfl, hb⟩; obtain ⟨hc1, hf1⟩ := cell_after w _ _ hb; have hz1 := after1_lt w _ hb; have hB1 := after1 w _ hb) | (go_at_call 17; refine (HK.out _ (HE.out.keep (hB1.alloc (Nat.le_of_lt hz1) _))).mono ?_; rintro e w2 ⟨rfl, hb2⟩; obtain ⟨hc2, hf2⟩ := cell_after w1 _ _ hb2; obtain ⟨hc3, hf3⟩ := cell_pass hc1 hf1 _ hb2 hz1; have hz2 := after1_lt w1 _ hb2; have hB2 := hB1.trans ((after1 w1 _ hb2).mono (Nat.le_of_lt hz1))) | (go_at_call 46; refine (HU.out _).mono ?_; rintro e w' ⟨rfl, hw'⟩; rw [hw']))
        refine bodyPost_ret (v := .tuple #[tokV 2 T 0 0, .int .i64 0]) (by simp [results, Tryd.results31, go_sem, tokV, hc3]) rfl ⟨?_, ?_⟩
        · rw [nameAt_of HT.out, if_neg hbig, HH.out, show Lex.keywords.contains T = false from hk2.out, if_neg (by simp), if_neg h90]; rfl
        · ((repeat' (first | (with_reducible exact hB2) | (with_reducible exact Below.refl _ _) | (with_reducible refine Below.drew ?_) | (with_reducible refine below_drewN ?_ _) | (with_reducible refine Below.alloc ?_ ?_ _) | (with_reducible refine Below.setCell ?_ ?_ _))) <;> (simp <;> omega))
    · have hk2 := Lib.hid hk
      go_enter Tryd.func31, Tryd.ntmps31
      go_wp2_with (first | (go_at_call 44; refine (HR.out _).mono ?_; rintro e w1 ⟨rfl, hb⟩; obtain ⟨hc1, hf1⟩ := cell_after w _ _ hb; have hz1 := after1_lt w _ hb; have hB1 := after1 w _ hb) | (go_at_call 17; refine (HK.out _ (HE.out.keep (hB1.alloc (Nat.le_of_lt hz1) _))).mono ?_; rintro e w2 ⟨rfl, hb2⟩; obtain ⟨hc2, hf2⟩ := cell_after w1 _ _ hb2; obtain ⟨hc3, hf3⟩ := cell_pass hc1 hf1 _ hb2 hz1; have hz2 := after1_lt w1 _ hb2; have hB2 := hB1.trans ((after1 w1 _ hb2).mono (Nat.le_of_lt hz1))) | (go_at_call 46; refine (HU.out _).mono ?_; rintro e w' ⟨rfl, hw'⟩; rw [hw']))
      refine bodyPost_ret (v := .tuple #[tokV 4 T 0 0, .int .i64 0]) (by simp [results, Tryd.results31, go_sem, tokV, hc3]) rfl ⟨?_, ?_⟩
      · rw [nameAt_of HT.out, if_neg hbig, show Lex.keywords.contains T = true from hk2.out, if_pos rfl]; rfl
      · ((repeat' (first | (with_reducible exact hB2) | (with_reducible exact Below.refl _ _) | (with_reducible refine Below.drew ?_) | (with_reducible refine below_drewN ?_ _) | (with_reducible refine Below.alloc ?_ ?_ _) | (with_reducible refine Below.setCell ?_ ?_ _))) <;> (simp <;> omega))
end Go.Proofs.YthbipapihdppmaaDoor
