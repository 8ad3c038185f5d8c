/-
  Several texts in one: LexProgC, LexProgD, LexNum, LexProgE, LexProgF, LexProgG.
-/
import Derived.Test.YtdckddkalgnlpaaGreatDoorA3
import Derived.Test.YtdckddkalgnlpaaGreatDoorA1
import Derived.Lib.ParseIntB
import Derived.Maps.Own
import Derived.Maps.Views
import Derived.StillTailTactics
namespace Go.Proofs.YtdckddkalgnlpaaGreatDoor
open Go.RowKit
theorem after1 (w : World) (o : Obj) {w1 : World} (hb : Below (w.alloc o).heap.size (w.alloc o) w1) : Below w.heap.size w w1 :=
 ((Below.refl _ _).alloc (Nat.le_refl _) o).trans (hb.mono (by rw [World.size_alloc]; omega))
theorem after1_lt (w : World) (o : Obj) {w1 : World} (hb : Below (w.alloc o).heap.size (w.alloc o) w1) : w.heap.size < w1.heap.size := by
 have h := hb.size
 rw [World.size_alloc] at h
 omega
theorem cell_after (w : World) (cs : Array Value) (t : TypeId) {w1 : World} (hb : Below (w.alloc (.cells cs t)).heap.size (w.alloc (.cells cs t)) w1) :
 (∀ o, w1.cell? ⟨w.heap.size, o, none⟩ = cs[o]?) ∧ (∀ o, w1.frozen? ⟨w.heap.size, o, none⟩ = false) := by
 have hlt : w.heap.size < (w.alloc (.cells cs t)).heap.size := by rw [World.size_alloc]; omega
 refine ⟨fun o => ?_, fun o => ?_⟩
 ·rw [hb.cell (p := ⟨w.heap.size, o, none⟩) hlt, World.cell?_alloc_new]
 ·rw [hb.frozen (p := ⟨w.heap.size, o, none⟩) hlt]
  unfold World.frozen?
  simp only [heap_alloc_new]
  simp
theorem cell_pass {b : Nat} {cs : Array Value} {w1 : World} (h : ∀ o, w1.cell? ⟨b, o, none⟩ = cs[o]?) (hf : ∀ o, w1.frozen? ⟨b, o, none⟩ = false) (X : Obj) {w2 : World} (hb : Below (w1.alloc X).heap.size (w1.alloc X) w2) (hlt : b < w1.heap.size) :
 (∀ o, w2.cell? ⟨b, o, none⟩ = cs[o]?) ∧ (∀ o, w2.frozen? ⟨b, o, none⟩ = false) := by
 have hlt2 : b < (w1.alloc X).heap.size := by rw [World.size_alloc]; omega
 refine ⟨fun o => ?_, fun o => ?_⟩
 ·rw [hb.cell (p := ⟨b, o, none⟩) hlt2, ← h o]
  exact World.cell?_of_block (w := w1) (Below.heap_alloc w1 X b hlt)
 ·rw [hb.frozen (p := ⟨b, o, none⟩) hlt2, ← hf o]
  exact World.frozen?_of_block (w := w1) (Below.heap_alloc w1 X b hlt)
set_option maxRecDepth 100000 in
set_option maxHeartbeats 1000000 in
theorem name_any (s : ByteArray) (c : UInt8) (r : List UInt8) (w : World) (hE : LexEnv w) (hs : s.size ≤ 9223372036854775806) (hl : s.data.toList = c :: r) (hc : Lex.letter c = true) :
 Calls Tryz.prog 79 #[.string s] w fun e w' => e = .returned (gotV 0 (Lex.nameAt s.data.toList)) ∧ Below w.heap.size w w' := by
 obtain ⟨T, hT⟩ : ∃ T, s.data.toList.takeWhile Lex.wordc = T := ⟨_, rfl⟩
 have hR : ∀ w0, Calls Tryz.prog 126 #[.string s, .string ⟨#[97, 98, 99, 100, 101, 102, 103, 104, 105, 106, 107, 108, 109, 110, 111, 112, 113, 114, 115, 116, 117, 118, 119, 120, 121, 122, 65, 66, 67, 68, 69, 70, 71, 72, 73, 74, 75, 76, 77, 78, 79, 80, 81, 82, 83, 84, 85, 86, 87, 88, 89, 90, 48, 49, 50, 51, 52, 53, 54, 55, 56, 57, 95]⟩] w0 fun e w' => e = .returned (.string ⟨T.toArray⟩) ∧ Below w0.heap.size w0 w' := by
  intro w0; rw [← hT]; exact run_word s w0 (by omega)
 obtain ⟨T', hTc⟩ : ∃ T', T = c :: T' := by
  rw [← hT, hl, List.takeWhile_cons, if_pos (by unfold Lex.wordc; rw [hc]; rfl)]; exact ⟨_, rfl⟩
 have hhead : T.headD 0 = c := by rw [hTc]; rfl
 have hone : (⟨T.toArray⟩ : ByteArray).extract 0 1 = ⟨#[c]⟩ := by
  apply bytes_eq; rw [Lib.extract_data]; show (T.drop 0).take 1 = [c]; rw [hTc]; rfl
 have hsz : (⟨T.toArray⟩ : ByteArray).size = T.length := by rw [Lib.size_eq]
 have hpos : 1 ≤ T.length := by rw [hTc]; simp
 have hU : ∀ w0, Calls Tryz.prog 129 #[.string ⟨#[65, 66, 67, 68, 69, 70, 71, 72, 73, 74, 75, 76, 77, 78, 79, 80, 81, 82, 83, 84, 85, 86, 87, 88, 89, 90]⟩, .string ⟨#[c]⟩] w0 fun e w' => e = .returned (.bool (decide (c.toNat ≤ 90))) ∧ w' = w0 := by
  intro w0
  have h := Tryz.strings_Contains_one ⟨#[65, 66, 67, 68, 69, 70, 71, 72, 73, 74, 75, 76, 77, 78, 79, 80, 81, 82, 83, 84, 85, 86, 87, 88, 89, 90]⟩ c w0
  rw [← upper_index c hc]
  exact h
 have hKw : ∀ w0, LexEnv w0 → Calls Tryz.prog 128 #[.string ⟨T.toArray⟩] w0 fun e w' => e = .returned (.bool (kwB T)) ∧ Below w0.heap.size w0 w' := by
  intro w0 h0; exact isKeyword_any ⟨T.toArray⟩ w0 h0
 have HR := Lib.hid hR
 have HT := Lib.hid hT
 have HU := Lib.hid hU
 have HK := Lib.hid hKw
 have HH := Lib.hid hhead
 have HE := Lib.hid hE
 clear hR hT hl hU hTc hhead hKw hE
 by_cases hbig : 31 < T.length
 ·go_enter Tryz.func79, Tryz.ntmps79
  go_wp2_with (go_at_call 126; refine (HR.out _).mono ?_; rintro e w1 ⟨rfl, hb⟩; obtain ⟨hc1, hf1⟩ := cell_after w _ _ hb; have hz1 := after1_lt w _ hb; have hB1 := after1 w _ hb)
  refine bodyPost_ret (v := .tuple #[tokV 0 [] 0 0, .int .i64 8]) (by simp [results, Tryz.results79, go_sem, tokV, hc1, hz1]) rfl ⟨?_, ?_⟩
  ·rw [nameAt_big HT.out hbig]; rfl
  ·((repeat' (first | (with_reducible exact hB1) | (with_reducible exact Below.refl _ _) | (with_reducible refine Below.drew ?_) | (with_reducible refine below_drewN ?_ _) | (with_reducible refine Below.alloc ?_ ?_ _) | (with_reducible refine Below.setCell ?_ ?_ _))) <;> (simp <;> omega))
 ·cases hk : kwB T
  ·have hk2 := Lib.hid hk
   by_cases h90 : c.toNat ≤ 90
   ·have hd := decide_eq_true h90
    go_enter Tryz.func79, Tryz.ntmps79
    go_wp2_with (first | (go_at_call 126; refine (HR.out _).mono ?_; rintro e w1 ⟨rfl, hb⟩; obtain ⟨hc1, hf1⟩ := cell_after w _ _ hb; have hz1 := after1_lt w _ hb; have hB1 := after1 w _ hb) | (go_at_call 128; refine (HK.out _ (HE.out.keep (hB1.alloc (Nat.le_of_lt hz1) _))).mono ?_; rintro e w2 ⟨rfl, hb2⟩; obtain ⟨hc2, hf2⟩ := cell_after w1 _ _ hb2; obtain ⟨hc3, hf3⟩ := cell_pass hc1 hf1 _ hb2 hz1; have hz2 := after1_lt w1 _ hb2; have hB2 := hB1.trans ((after1 w1 _ hb2).mono (Nat.le_of_lt hz1))) | (go_at_call 129; refine (HU.out _).mono ?_; rintro e w' ⟨rfl, hw'⟩; rw [hw']))
    refine bodyPost_ret (v := .tuple #[tokV 3 T 0 0, .int .i64 0]) (by simp [results, Tryz.results79, go_sem, tokV, hc3]) rfl ⟨?_, ?_⟩
    ·rw [nameAt_of HT.out, if_neg hbig, HH.out, show Lex.keywords.contains T = false from hk2.out, if_neg (by simp), if_pos h90]; rfl
    ·((repeat' (first | (with_reducible exact hB2) | (with_reducible exact Below.refl _ _) | (with_reducible refine Below.drew ?_) | (with_reducible refine below_drewN ?_ _) | (with_reducible refine Below.alloc ?_ ?_ _) | (with_reducible refine Below.setCell ?_ ?_ _))) <;> (simp <;> omega))
   ·have hd := decide_eq_false h90
    go_enter Tryz.func79, Tryz.ntmps79
    go_wp2_with (first | (go_at_call 126; refine (HR.out _).mono ?_; rintro e w1 ⟨rfl, hb⟩; obtain ⟨hc1, hf1⟩ := cell_after w _ _ hb; have hz1 := after1_lt w _ hb; have hB1 := after1 w _ hb) | (go_at_call 128; refine (HK.out _ (HE.out.keep (hB1.alloc (Nat.le_of_lt hz1) _))).mono ?_; rintro e w2 ⟨rfl, hb2⟩; obtain ⟨hc2, hf2⟩ := cell_after w1 _ _ hb2; obtain ⟨hc3, hf3⟩ := cell_pass hc1 hf1 _ hb2 hz1; have hz2 := after1_lt w1 _ hb2; have hB2 := hB1.trans ((after1 w1 _ hb2).mono (Nat.le_of_lt hz1))) | (go_at_call 129; refine (HU.out _).mono ?_; rintro e w' ⟨rfl, hw'⟩; rw [hw']))
    refine bodyPost_ret (v := .tuple #[tokV 2 T 0 0, .int .i64 0]) (by simp [results, Tryz.results79, go_sem, tokV, hc3]) rfl ⟨?_, ?_⟩
    ·rw [nameAt_of HT.out, if_neg hbig, HH.out, show Lex.keywords.contains T = false from hk2.out, if_neg (by simp), if_neg h90]; rfl
    ·((repeat' (first | (with_reducible exact hB2) | (with_reducible exact Below.refl _ _) | (with_reducible refine Below.drew ?_) | (with_reducible refine below_drewN ?_ _) | (with_reducible refine Below.alloc ?_ ?_ _) | (with_reducible refine Below.setCell ?_ ?_ _))) <;> (simp <;> omega))
  ·have hk2 := Lib.hid hk
   go_enter Tryz.func79, Tryz.ntmps79
   go_wp2_with (first | (go_at_call 126; refine (HR.out _).mono ?_; rintro e w1 ⟨rfl, hb⟩; obtain ⟨hc1, hf1⟩ := cell_after w _ _ hb; have hz1 := after1_lt w _ hb; have hB1 := after1 w _ hb) | (go_at_call 128; refine (HK.out _ (HE.out.keep (hB1.alloc (Nat.le_of_lt hz1) _))).mono ?_; rintro e w2 ⟨rfl, hb2⟩; obtain ⟨hc2, hf2⟩ := cell_after w1 _ _ hb2; obtain ⟨hc3, hf3⟩ := cell_pass hc1 hf1 _ hb2 hz1; have hz2 := after1_lt w1 _ hb2; have hB2 := hB1.trans ((after1 w1 _ hb2).mono (Nat.le_of_lt hz1))) | (go_at_call 129; refine (HU.out _).mono ?_; rintro e w' ⟨rfl, hw'⟩; rw [hw']))
   refine bodyPost_ret (v := .tuple #[tokV 4 T 0 0, .int .i64 0]) (by simp [results, Tryz.results79, go_sem, tokV, hc3]) rfl ⟨?_, ?_⟩
   ·rw [nameAt_of HT.out, if_neg hbig, show Lex.keywords.contains T = true from hk2.out, if_pos rfl]; rfl
   ·((repeat' (first | (with_reducible exact hB2) | (with_reducible exact Below.refl _ _) | (with_reducible refine Below.drew ?_) | (with_reducible refine below_drewN ?_ _) | (with_reducible refine Below.alloc ?_ ?_ _) | (with_reducible refine Below.setCell ?_ ?_ _))) <;> (simp <;> omega))
end Go.Proofs.YtdckddkalgnlpaaGreatDoor
namespace Go.Proofs.YtdckddkalgnlpaaGreatDoor
open Go.RowKit
theorem contains_sy (T : List UInt8) : Lib.containsS ((List.range 19).map syz) ⟨T.toArray⟩ = syB T := by
 rw [Bool.eq_iff_iff, Lib.containsS_iff]
 unfold syB
 rw [List.contains_iff_mem, List.mem_map]
 constructor
 ·rintro ⟨j, hj, he⟩
  have h4 : j < 19 := by simpa using hj
  have hk : j < Lex.symbols.length := h4
  have : (Lex.symbols.getD j []) = T := by
   have h3 := congrArg (fun x : ByteArray => x.data.toList) he
   simpa [syz] using h3
  rw [← this, List.getD_eq_getElem?_getD, List.getElem?_eq_getElem hk]
  exact List.getElem_mem hk
 ·intro h
  obtain ⟨j, hj, he⟩ := List.getElem_of_mem h
  have h4 : j < 19 := hj
  refine ⟨j, by simpa using h4, ?_⟩
  unfold syz
  rw [List.getD_eq_getElem?_getD, List.getElem?_eq_getElem hj, Option.getD_some, he]
theorem contains_at (w : World) (b o c : Nat) (T : List UInt8) (h : ∀ j, j < 19 → w.cell? ⟨b, o + j, none⟩ = some (.string (syz j))) :
 Calls Tryz.prog 130 #[.slice (some ⟨b, o, none⟩) 19 c, .string ⟨T.toArray⟩] w fun e w' => e = .returned (.bool (syB T)) ∧ w' = w := by
 have h1 := Tryz.slices_Contains_string b o 19 c ((List.range 19).map syz) ⟨T.toArray⟩ w (by simp) (by omega) (by
  intro j hj
  have hj2 : j < 19 := by simpa using hj
  rw [h j hj2]
  simp [hj2])
 rw [List.take_of_length_le (by simp), contains_sy] at h1
 exact h1
set_option maxRecDepth 100000 in
set_option maxHeartbeats 1000000 in
theorem symbol_any (s : ByteArray) (w : World) (hE : LexEnv w) (hs : s.size ≤ 9223372036854775806) (h0 : 0 < s.size) :
 Calls Tryz.prog 80 #[.string s] w fun e w' => e = .returned (gotV 0 (Lex.symbolAt s.data.toList)) ∧ Below w.heap.size w w' := by
 obtain ⟨b, o, c, h1, h2⟩ := hE.sy
 have hlen := Lib.size_eq s
 obtain ⟨l, hl⟩ : ∃ l, s.data.toList = l := ⟨_, rfl⟩
 rw [hl] at hlen ⊢
 have hx2 : s.extract 0 2 = ⟨(l.take 2).toArray⟩ := by apply bytes_eq; rw [Lib.extract_data, hl]; rfl
 have hx1 : s.extract 0 1 = ⟨(l.take 1).toArray⟩ := by apply bytes_eq; rw [Lib.extract_data, hl]; rfl
 obtain ⟨T2, hT2⟩ : ∃ T, l.take 2 = T := ⟨_, rfl⟩
 obtain ⟨T1, hT1⟩ : ∃ T, l.take 1 = T := ⟨_, rfl⟩
 rw [hT2] at hx2
 rw [hT1] at hx1
 have HL := Lib.hid hlen
 have HT2 := Lib.hid hT2
 have HT1 := Lib.hid hT1
 have H2 := Lib.hid h2
 have hbw := World.block_lt_of_cell? w _ (h2 0 (by omega))
 have hg := World.block_lt_of_cell? w _ h1
 simp only at hbw hg
 clear hlen hl hT2 hT1 h2 hE
 obtain ⟨m, hm, hm2⟩ : ∃ m : Nat, min 2 (s.size : Int) = m ∧ ((m = 2 ∧ 2 ≤ s.size) ∨ (m = 1 ∧ s.size = 1)) := by
  by_cases h : 2 ≤ s.size
  ·exact ⟨2, by omega, .inl ⟨rfl, h⟩⟩
  ·exact ⟨1, by omega, .inr ⟨rfl, by omega⟩⟩
 have HM := Lib.hid hm2
 clear hm2
 go_enter Tryz.func80, Tryz.ntmps80
 go_wp2
 clear hm
 go_loopw [4] (fun n wr => ∃ k : Nat, n = .int .i64 k ∧ k ≤ 2 ∧ k ≤ s.size ∧ (k < 2 → ¬ (2 ≤ s.size ∧ syB T2 = true)) ∧ (k = 0 → ¬ (syB T1 = true)) ∧ ∃ q, wr = (w.alloc (.cells #[.int .i64 0, .string ⟨#[]⟩, .int .i64 0, .int .i64 0] 59)).drewN q) (fun n _ => (intOf n).toNat)
 case atStart =>
  have hm3 := HM.out
  exact ⟨m, rfl, by omega, by omega, by omega, by omega, 0, rfl⟩
 case round =>
  obtain ⟨k, rfl, hk2, hks, hA, hB, q, rfl⟩ := hrel
  have HA := Lib.hid hA
  have HB := Lib.hid hB
  clear hA hB
  rcases (show k = 0 ∨ k = 1 ∨ k = 2 by omega) with rfl | rfl | rfl
  ·go_wp2
   refine bodyPost_ret (v := .tuple #[tokV 0 [] 0 0, .int .i64 3]) (by simp [results, Tryz.results80, go_sem, tokV]) rfl ⟨?_, ?_⟩
   ·have h5 := HA.out (by omega)
    have h6 := HB.out trivial
    rw [symbolAt_no (by rw [HT2.out, ← HL.out]; exact h5) (by rw [HT1.out]; show syB T1 = false; simpa using h6)]; rfl
   ·((repeat' (first | (with_reducible exact Below.refl _ _) | (with_reducible refine Below.drew ?_) | (with_reducible refine below_drewN ?_ _) | (with_reducible refine Below.alloc ?_ ?_ _) | (with_reducible refine Below.setCell ?_ ?_ _))) <;> (simp <;> omega))
  ·have z1 : (0 : Int) ≤ 1 := by omega
   have z2 : (1 : Int) ≤ (s.size : Int) := by omega
   cases hk : syB T1
   ·go_wp2
    go_region_held3 (fun w' => w'.cell? ⟨1, 0, none⟩ = some (.slice (some ⟨b, o, none⟩) 19 c)) (go_keep) (first | (go_at_call 130; refine (contains_at _ _ _ _ _ (by intro j hj; refine Eq.trans ?_ (H2.out j hj); exact World.cell?_of_block (w := w) (Below.heap_alloc w _ b hbw))).mono ?_; rintro e w' ⟨rfl, rfl⟩))
    go_wp2
    go_roundw
    case rel =>
     have h5 := HA.out
     exact ⟨0, by go_num, by omega, by omega, by intro _; exact h5 (by omega), by intro _; simp, _, rfl⟩
    case measure => simp [intOf]
   ·have HK := Lib.hid hk
    go_wp2
    go_region_held3 (fun w' => w'.cell? ⟨1, 0, none⟩ = some (.slice (some ⟨b, o, none⟩) 19 c)) (go_keep) (first | (go_at_call 130; refine (contains_at _ _ _ _ _ (by intro j hj; refine Eq.trans ?_ (H2.out j hj); exact World.cell?_of_block (w := w) (Below.heap_alloc w _ b hbw))).mono ?_; rintro e w' ⟨rfl, rfl⟩))
    go_wp2
    refine bodyPost_ret (v := .tuple #[tokV 5 T1 0 0, .int .i64 0]) (by simp [results, Tryz.results80, go_sem, tokV]) rfl ⟨?_, ?_⟩
    ·have h5 := HA.out (by omega)
     rw [symbolAt_one (by rw [HT2.out, ← HL.out]; exact h5) (by rw [HT1.out]; exact HK.out), HT1.out]; rfl
    ·((repeat' (first | (with_reducible exact Below.refl _ _) | (with_reducible refine Below.drew ?_) | (with_reducible refine below_drewN ?_ _) | (with_reducible refine Below.alloc ?_ ?_ _) | (with_reducible refine Below.setCell ?_ ?_ _))) <;> (simp <;> omega))
  ·have z1 : (0 : Int) ≤ 2 := by omega
   have z2 : (2 : Int) ≤ (s.size : Int) := by omega
   cases hk : syB T2
   ·go_wp2
    go_region_held3 (fun w' => w'.cell? ⟨1, 0, none⟩ = some (.slice (some ⟨b, o, none⟩) 19 c)) (go_keep) (first | (go_at_call 130; refine (contains_at _ _ _ _ _ (by intro j hj; refine Eq.trans ?_ (H2.out j hj); exact World.cell?_of_block (w := w) (Below.heap_alloc w _ b hbw))).mono ?_; rintro e w' ⟨rfl, rfl⟩))
    go_wp2
    go_roundw
    case rel => exact ⟨1, by go_num, by omega, by omega, by intro _; simp, by omega, _, rfl⟩
    case measure => simp [intOf]
   ·have HK := Lib.hid hk
    go_wp2
    go_region_held3 (fun w' => w'.cell? ⟨1, 0, none⟩ = some (.slice (some ⟨b, o, none⟩) 19 c)) (go_keep) (first | (go_at_call 130; refine (contains_at _ _ _ _ _ (by intro j hj; refine Eq.trans ?_ (H2.out j hj); exact World.cell?_of_block (w := w) (Below.heap_alloc w _ b hbw))).mono ?_; rintro e w' ⟨rfl, rfl⟩))
    go_wp2
    refine bodyPost_ret (v := .tuple #[tokV 5 T2 0 0, .int .i64 0]) (by simp [results, Tryz.results80, go_sem, tokV]) rfl ⟨?_, ?_⟩
    ·rw [symbolAt_two (by rw [← HL.out]; omega) (by rw [HT2.out]; exact HK.out), HT2.out]; rfl
    ·((repeat' (first | (with_reducible exact Below.refl _ _) | (with_reducible refine Below.drew ?_) | (with_reducible refine below_drewN ?_ _) | (with_reducible refine Below.alloc ?_ ?_ _) | (with_reducible refine Below.setCell ?_ ?_ _))) <;> (simp <;> omega))
end Go.Proofs.YtdckddkalgnlpaaGreatDoor
namespace Go.Proofs.YtdckddkalgnlpaaGreatDoor
theorem value_ge (l : List UInt8) : ∀ acc : Nat, acc ≤ l.foldl (fun n c => 10 * n + (c.toNat - 48)) acc := by
 induction l with
 | nil => intro acc; exact Nat.le_refl _
 | cons c r ih =>
   intro acc
   have := ih (10 * acc + (c.toNat - 48))
   rw [List.foldl_cons]
   omega
theorem parseUintM_digits : ∀ (l : List UInt8) (acc : Nat), (∀ c ∈ l, 48 ≤ c.toNat ∧ c.toNat ≤ 57) → acc ≤ 18446744073709551615 →
 Lib.parseUintM 18446744073709551615 acc l = if l.foldl (fun n c => 10 * n + (c.toNat - 48)) acc ≤ 18446744073709551615 then .ok (l.foldl (fun n c => 10 * n + (c.toNat - 48)) acc) else .range
 | [], acc, _, h => by rw [Lib.parseUintM, List.foldl_nil, if_pos h]
 | c :: r, acc, hd, h => by
   have hc := hd c (by simp)
   have hge := value_ge r (10 * acc + (c.toNat - 48))
   rw [Lib.parseUintM, if_pos hc, List.foldl_cons]
   by_cases h1 : 1844674407370955162 ≤ acc
   ·rw [if_pos h1, if_neg (by omega)]
   ·rw [if_neg h1]
    by_cases h2 : 18446744073709551615 < acc * 10 + (c.toNat - 48)
    ·rw [if_pos h2, if_neg (by omega)]
    ·rw [if_neg h2, show acc * 10 + (c.toNat - 48) = 10 * acc + (c.toNat - 48) by omega]
     exact parseUintM_digits r _ (fun x hx => hd x (by simp [hx])) (by omega)
theorem parseInt_digits (l : List UInt8) (hne : l ≠ []) (hd : ∀ c ∈ l, 48 ≤ c.toNat ∧ c.toNat ≤ 57) :
 Lib.parseIntB 64 l = if Lex.value l < 9223372036854775808 then .ok (Lex.value l : Int) else .range := by
 cases l with
 | nil => exact absurd rfl hne
 | cons c r =>
   have hc := hd c (by simp)
   have hsign : ¬ (c.toNat = 43 ∨ c.toNat = 45) := by omega
   unfold Lib.parseIntB
   simp only [if_neg hsign]
   have hU : Lib.parseUintB 64 (c :: r) = if Lex.value (c :: r) ≤ 18446744073709551615 then .ok (Lex.value (c :: r)) else .range := by
    unfold Lib.parseUintB
    rw [if_neg (by simp)]
    exact parseUintM_digits (c :: r) 0 hd (by omega)
   rw [hU]
   have h45 : ¬ c.toNat = 45 := by omega
   by_cases h1 : Lex.value (c :: r) ≤ 18446744073709551615
   ·rw [if_pos h1]
    simp only [h45, not_false_eq_true, true_and, false_and, if_false]
    by_cases h2 : Lex.value (c :: r) < 9223372036854775808
    ·rw [if_pos h2, if_neg (by show ¬ 9223372036854775808 ≤ _; omega)]
    ·rw [if_neg h2, if_pos (by show 9223372036854775808 ≤ _; omega)]
   ·rw [if_neg h1, if_neg (by omega)]
end Go.Proofs.YtdckddkalgnlpaaGreatDoor
namespace Go.Proofs.YtdckddkalgnlpaaGreatDoor
open Go.RowKit
theorem digits_of {l T : List UInt8} (h : l.takeWhile Lex.digit = T) : ∀ c ∈ T, 48 ≤ c.toNat ∧ c.toNat ≤ 57 := by
 intro c hc
 rw [← h] at hc
 have := List.all_eq_true.1 (List.all_takeWhile (p := Lex.digit) (l := l)) c hc
 exact of_decide_eq_true this
theorem parse_small (T : List UInt8) (w : World) (hne : T ≠ []) (hd : ∀ c ∈ T, 48 ≤ c.toNat ∧ c.toNat ≤ 57) (hT : T.length ≤ 140737488355328) (hv : Lex.value T < 9223372036854775808) :
 Calls Tryz.prog 127 #[.string ⟨T.toArray⟩, .int .i64 10, .int .i64 64] w fun e w' => e = .returned (.tuple #[.int .i64 (Lex.value T : Nat), .nilIface]) ∧ Below w.heap.size w w' := by
 refine (Tryz.strconv_ParseInt_10_at64_ok ⟨T.toArray⟩ (by rw [Lib.size_eq]; show T.length ≤ _; omega) (Lex.value T) (by show Lib.parseIntB 64 T = _; rw [parseInt_digits T hne hd, if_pos hv]) w).mono ?_
 rintro e w' ⟨rfl, rfl | ⟨t, rfl⟩⟩
 ·exact ⟨rfl, Below.refl _ _⟩
 ·exact ⟨rfl, Lib.bytesWorld_below _ _ _⟩
theorem parse_large (T : List UInt8) (w : World) (hE : LexEnv w) (hne : T ≠ []) (hd : ∀ c ∈ T, 48 ≤ c.toNat ∧ c.toNat ≤ 57) (hT : T.length ≤ 140737488355328) (hv : ¬ Lex.value T < 9223372036854775808) :
 Calls Tryz.prog 127 #[.string ⟨T.toArray⟩, .int .i64 10, .int .i64 64] w fun e w' => (∃ (x : Int) (u : TypeId) (p : Value), e = .returned (.tuple #[.int .i64 x, .iface u p])) ∧ Below w.heap.size w w' := by
 obtain ⟨te, pe, hc⟩ := hE.er
 refine (Tryz.strconv_ParseInt_10_at64_range ⟨T.toArray⟩ (by rw [Lib.size_eq]; show T.length ≤ _; omega) (by show Lib.parseIntB 64 T = _; rw [parseInt_digits T hne hd, if_neg hv]) _ w hc (.inr ⟨te, pe, rfl⟩)).mono ?_
 rintro e w' ⟨N, rfl, _, _, hb⟩
 exact ⟨⟨_, _, _, rfl⟩, hb⟩
theorem takeWhile_drop_head (l T : List UInt8) : (l.drop T.length).head?.any Lex.tailc = !((l.drop T.length).takeWhile Lex.tailc).isEmpty := by
 cases hd : l.drop T.length with
 | nil => rfl
 | cons a r =>
   simp only [List.head?_cons, Option.any_some, List.takeWhile_cons]
   cases Lex.tailc a <;> rfl
set_option maxRecDepth 100000 in
set_option maxHeartbeats 1000000 in
theorem number_any (s : ByteArray) (c : UInt8) (r : List UInt8) (w : World) (hE : LexEnv w) (hs : s.size ≤ 140737488355328) (hl : s.data.toList = c :: r) (hc : Lex.digit c = true) :
 Calls Tryz.prog 78 #[.string s] w fun e w' => e = .returned (gotV 0 (Lex.numberAt s.data.toList)) ∧ Below w.heap.size w w' := by
 obtain ⟨T, hT⟩ : ∃ T, s.data.toList.takeWhile Lex.digit = T := ⟨_, rfl⟩
 have hlen := Lib.size_eq s
 have hTl : T.length ≤ s.size := by rw [← hT, hlen]; exact Lex.takeWhile_le _ _
 have hR : ∀ w0, Calls Tryz.prog 126 #[.string s, .string ⟨#[48, 49, 50, 51, 52, 53, 54, 55, 56, 57]⟩] w0 fun e w' => e = .returned (.string ⟨T.toArray⟩) ∧ Below w0.heap.size w0 w' := by
  intro w0; rw [← hT]; exact run_digit s w0 (by omega)
 obtain ⟨T', hTc⟩ : ∃ T', T = c :: T' := by
  rw [← hT, hl, List.takeWhile_cons, if_pos hc]; exact ⟨_, rfl⟩
 have hget : ∀ h : 0 < (⟨T.toArray⟩ : ByteArray).size, (⟨T.toArray⟩ : ByteArray)[0]'h = c := by rw [hTc]; intro h; rfl
 have hhead : T.headD 0 = c := by rw [hTc]; rfl
 have hne : T ≠ [] := by rw [hTc]; simp
 have hsz : (⟨T.toArray⟩ : ByteArray).size = T.length := by rw [Lib.size_eq]
 have hpos : 1 ≤ T.length := by rw [hTc]; simp
 obtain ⟨R, hRR⟩ : ∃ R, (s.data.toList.drop T.length).takeWhile Lex.tailc = R := ⟨_, rfl⟩
 have hR2 : ∀ w0, Calls Tryz.prog 126 #[.string (s.extract T.length s.size), .string ⟨#[97, 98, 99, 100, 101, 102, 103, 104, 105, 106, 107, 108, 109, 110, 111, 112, 113, 114, 115, 116, 117, 118, 119, 120, 121, 122, 65, 66, 67, 68, 69, 70, 71, 72, 73, 74, 75, 76, 77, 78, 79, 80, 81, 82, 83, 84, 85, 86, 87, 88, 89, 90, 95]⟩] w0 fun e w' => e = .returned (.string ⟨R.toArray⟩) ∧ Below w0.heap.size w0 w' := by
  intro w0
  have h := run_tail (s.extract T.length s.size) w0 (by rw [Lib.size_eq, Lib.extract_data]; simp; omega)
  rw [Lib.extract_to_end, hRR] at h
  exact h
 have htl := takeWhile_drop_head s.data.toList T
 rw [hRR] at htl
 have hdig := digits_of hT
 have HR := Lib.hid hR
 have HT := Lib.hid hT
 have HR2 := Lib.hid hR2
 have HE := Lib.hid hE
 have HTL := Lib.hid htl
 have HD := Lib.hid hdig
 have HH := Lib.hid hhead
 have HNE := Lib.hid hne
 clear hR hT hl hTc hE htl hR2 hlen hRR hdig hhead hne
 by_cases hz : 1 < T.length ∧ T.headD 0 = 48
 ·obtain ⟨hz1', hz2'⟩ := hz
  have h48 : ((c.toNat : Int) == 48) = true := by rw [HH.out] at hz2'; rw [hz2']; rfl
  have HZ := Lib.hid hz2'
  clear hz2'
  go_enter Tryz.func78, Tryz.ntmps78
  go_wp2_with fail
  refine (HR.out _).mono ?_; rintro e w1 ⟨rfl, hb⟩; obtain ⟨hc1, hf1⟩ := cell_after w _ _ hb; have hz1 := after1_lt w _ hb; have hB1 := after1 w _ hb
  go_wp2_with fail
  refine bodyPost_ret (v := .tuple #[tokV 0 [] 0 0, .int .i64 3]) (by simp [results, Tryz.results78, go_sem, tokV, hc1]) rfl ⟨?_, ?_⟩
  ·cases htl : R.isEmpty
   ·rw [numberAt_tail HT.out (by rw [HTL.out, htl]; rfl)]; rfl
   ·rw [numberAt_of HT.out (by rw [HTL.out, htl]; rfl), if_pos ⟨hz1', HZ.out⟩]; rfl
  ·((repeat' (first | (with_reducible exact hB1) | (with_reducible exact Below.refl _ _) | (with_reducible refine Below.drew ?_) | (with_reducible refine below_drewN ?_ _) | (with_reducible refine Below.alloc ?_ ?_ _) | (with_reducible refine Below.setCell ?_ ?_ _))) <;> (simp <;> omega))
 ·have HZ := Lib.hid hz
  have hz5 : ¬ 1 < T.length ∨ (1 < T.length ∧ ((c.toNat : Int) == 48) = false) := by
   by_cases h : 1 < T.length
   ·refine .inr ⟨h, beq_no _ _ fun e => hz ⟨h, ?_⟩⟩
    rw [HH.out]
    exact UInt8.toNat_inj.1 (by show _ = 48; omega)
   ·exact .inl h
  clear hz
  cases R with
  | cons a R' =>
    have hne2 : ((⟨(a :: R').toArray⟩ : ByteArray).toList == []) = false := by rw [toList_mk]; rfl
    rcases hz5 with hz5 | ⟨hz5, hz6⟩
    all_goals
     go_enter Tryz.func78, Tryz.ntmps78
     go_wp2_with fail
     refine (HR.out _).mono ?_; rintro e w1 ⟨rfl, hb⟩; obtain ⟨hc1, hf1⟩ := cell_after w _ _ hb; have hz1 := after1_lt w _ hb; have hB1 := after1 w _ hb
     go_wp2_with fail
     refine (HR2.out _).mono ?_; rintro e w2 ⟨rfl, hb2⟩; have hc2 := fun o => (hb2.cell (p := ⟨w.heap.size, o, none⟩) hz1).trans (hc1 o); have hf2 := fun o => (hb2.frozen (p := ⟨w.heap.size, o, none⟩) hz1).trans (hf1 o); have hz2 := Nat.lt_of_lt_of_le hz1 hb2.size; have hB2 := hB1.trans (hb2.mono hB1.size)
     go_wp2_with fail
     refine bodyPost_ret (v := .tuple #[tokV 0 [] 0 0, .int .i64 3]) (by simp [results, Tryz.results78, go_sem, tokV, hc2]) rfl ⟨?_, ?_⟩
     ·rw [numberAt_tail HT.out (by rw [HTL.out]; rfl)]; rfl
     ·((repeat' (first | (with_reducible exact hB2) | (with_reducible exact Below.refl _ _) | (with_reducible refine Below.drew ?_) | (with_reducible refine below_drewN ?_ _) | (with_reducible refine Below.alloc ?_ ?_ _) | (with_reducible refine Below.setCell ?_ ?_ _))) <;> (simp <;> omega))
  | nil =>
    have hmax : T.length ≤ 140737488355328 := by omega
    by_cases hv : Lex.value T < 9223372036854775808
    ·have HV := Lib.hid hv
     clear hv
     by_cases hm : Lex.value T ≤ 2305843009213693951
     ·have hm2 : decide (2305843009213693951 < ((Lex.value T : Nat) : Int)) = false := decide_eq_false (by omega)
      have HM := Lib.hid hm
      rcases hz5 with hz5 | ⟨hz5, hz6⟩
      all_goals
       go_enter Tryz.func78, Tryz.ntmps78
       go_wp2_with fail
       refine (HR.out _).mono ?_; rintro e w1 ⟨rfl, hb⟩; obtain ⟨hc1, hf1⟩ := cell_after w _ _ hb; have hz1 := after1_lt w _ hb; have hB1 := after1 w _ hb
       go_wp2_with fail
       refine (HR2.out _).mono ?_; rintro e w2 ⟨rfl, hb2⟩; have hc2 := fun o => (hb2.cell (p := ⟨w.heap.size, o, none⟩) hz1).trans (hc1 o); have hf2 := fun o => (hb2.frozen (p := ⟨w.heap.size, o, none⟩) hz1).trans (hf1 o); have hz2 := Nat.lt_of_lt_of_le hz1 hb2.size; have hB2 := hB1.trans (hb2.mono hB1.size)
       go_wp2_with fail
       refine (parse_small T _ HNE.out HD.out (by omega) HV.out).mono ?_; rintro e w3 ⟨rfl, hb3⟩; have hc3 := fun o => (hb3.cell (p := ⟨w.heap.size, o, none⟩) hz2).trans (hc2 o); have hf3 := fun o => (hb3.frozen (p := ⟨w.heap.size, o, none⟩) hz2).trans (hf2 o); have hB3 := hB2.trans (hb3.mono hB2.size)
       go_wp2_with fail
       refine bodyPost_ret (v := .tuple #[tokV 1 T (Lex.value T) 0, .int .i64 0]) (by simp [results, Tryz.results78, go_sem, tokV, hc3]) rfl ⟨?_, ?_⟩
       ·rw [numberAt_of HT.out (by rw [HTL.out]; rfl), if_neg HZ.out, if_neg (by have := HM.out; omega)]; rfl
       ·((repeat' (first | (with_reducible exact hB3) | (with_reducible exact Below.refl _ _) | (with_reducible refine Below.drew ?_) | (with_reducible refine below_drewN ?_ _) | (with_reducible refine Below.alloc ?_ ?_ _) | (with_reducible refine Below.setCell ?_ ?_ _))) <;> (simp <;> omega))
     ·have hm2 : decide (2305843009213693951 < ((Lex.value T : Nat) : Int)) = true := decide_eq_true (by omega)
      have HM := Lib.hid hm
      rcases hz5 with hz5 | ⟨hz5, hz6⟩
      all_goals
       go_enter Tryz.func78, Tryz.ntmps78
       go_wp2_with fail
       refine (HR.out _).mono ?_; rintro e w1 ⟨rfl, hb⟩; obtain ⟨hc1, hf1⟩ := cell_after w _ _ hb; have hz1 := after1_lt w _ hb; have hB1 := after1 w _ hb
       go_wp2_with fail
       refine (HR2.out _).mono ?_; rintro e w2 ⟨rfl, hb2⟩; have hc2 := fun o => (hb2.cell (p := ⟨w.heap.size, o, none⟩) hz1).trans (hc1 o); have hf2 := fun o => (hb2.frozen (p := ⟨w.heap.size, o, none⟩) hz1).trans (hf1 o); have hz2 := Nat.lt_of_lt_of_le hz1 hb2.size; have hB2 := hB1.trans (hb2.mono hB1.size)
       go_wp2_with fail
       refine (parse_small T _ HNE.out HD.out (by omega) HV.out).mono ?_; rintro e w3 ⟨rfl, hb3⟩; have hc3 := fun o => (hb3.cell (p := ⟨w.heap.size, o, none⟩) hz2).trans (hc2 o); have hf3 := fun o => (hb3.frozen (p := ⟨w.heap.size, o, none⟩) hz2).trans (hf2 o); have hB3 := hB2.trans (hb3.mono hB2.size)
       go_wp2_with fail
       refine bodyPost_ret (v := .tuple #[tokV 0 [] 0 0, .int .i64 2]) (by simp [results, Tryz.results78, go_sem, tokV, hc3]) rfl ⟨?_, ?_⟩
       ·rw [numberAt_of HT.out (by rw [HTL.out]; rfl), if_neg HZ.out, if_pos (by have := HM.out; omega)]; rfl
       ·((repeat' (first | (with_reducible exact hB3) | (with_reducible exact Below.refl _ _) | (with_reducible refine Below.drew ?_) | (with_reducible refine below_drewN ?_ _) | (with_reducible refine Below.alloc ?_ ?_ _) | (with_reducible refine Below.setCell ?_ ?_ _))) <;> (simp <;> omega))
    ·have HV := Lib.hid hv
     clear hv
     rcases hz5 with hz5 | ⟨hz5, hz6⟩
     all_goals
      go_enter Tryz.func78, Tryz.ntmps78
      go_wp2_with fail
      refine (HR.out _).mono ?_; rintro e w1 ⟨rfl, hb⟩; obtain ⟨hc1, hf1⟩ := cell_after w _ _ hb; have hz1 := after1_lt w _ hb; have hB1 := after1 w _ hb
      go_wp2_with fail
      refine (HR2.out _).mono ?_; rintro e w2 ⟨rfl, hb2⟩; have hc2 := fun o => (hb2.cell (p := ⟨w.heap.size, o, none⟩) hz1).trans (hc1 o); have hf2 := fun o => (hb2.frozen (p := ⟨w.heap.size, o, none⟩) hz1).trans (hf1 o); have hz2 := Nat.lt_of_lt_of_le hz1 hb2.size; have hB2 := hB1.trans (hb2.mono hB1.size)
      go_wp2_with fail
      refine (parse_large T _ (HE.out.keep hB2) HNE.out HD.out (by omega) HV.out).mono ?_; rintro e w3 ⟨⟨x, u, p, rfl⟩, hb3⟩; have hc3 := fun o => (hb3.cell (p := ⟨w.heap.size, o, none⟩) hz2).trans (hc2 o); have hf3 := fun o => (hb3.frozen (p := ⟨w.heap.size, o, none⟩) hz2).trans (hf2 o); have hB3 := hB2.trans (hb3.mono hB2.size)
      go_wp2_with fail
      refine bodyPost_ret (v := .tuple #[tokV 0 [] 0 0, .int .i64 2]) (by simp [results, Tryz.results78, go_sem, tokV, hc3]) rfl ⟨?_, ?_⟩
      ·rw [numberAt_of HT.out (by rw [HTL.out]; rfl), if_neg HZ.out, if_pos (by have := HV.out; omega)]; rfl
      ·((repeat' (first | (with_reducible exact hB3) | (with_reducible exact Below.refl _ _) | (with_reducible refine Below.drew ?_) | (with_reducible refine below_drewN ?_ _) | (with_reducible refine Below.alloc ?_ ?_ _) | (with_reducible refine Below.setCell ?_ ?_ _))) <;> (simp <;> omega))
end Go.Proofs.YtdckddkalgnlpaaGreatDoor
namespace Go.Proofs.YtdckddkalgnlpaaGreatDoor
open Go.RowKit Go.Maps
def fnV (n : Nat) : Value := .func (.func n) #[] #[]
def fnTag (v : Value) : Option (DataW Unit × List MemPlace) :=
 match v with
 | .func (.func n) a b => if a.size = 0 ∧ b.size = 0 ∧ n ≠ 0 then some (.lit (.int .i64 n), []) else none
 | .nilFunc => some (.lit (.int .i64 0), [])
 | _ => none
theorem fnTag_fnV (n : Nat) (h : n ≠ 0) : fnTag (fnV n) = some (.lit (.int .i64 n), []) := by simp [fnTag, fnV, h]
theorem fnTag_inv {v : Value} {n : Nat} {ps : List MemPlace} (h : fnTag v = some (.lit (.int .i64 n), ps)) : v = if n = 0 then .nilFunc else fnV n := by
 unfold fnTag at h
 split at h
 ·rename_i m a b
  split at h
  ·rename_i hc
   simp only [Option.some.injEq, Prod.mk.injEq, DataW.lit.injEq, Lit.int.injEq, true_and] at h
   obtain ⟨ha, hb, hm⟩ := hc
   have hmn : m = n := Int.ofNat_inj.1 h.1
   subst hmn
   rw [if_neg hm]
   unfold fnV
   rw [Array.eq_empty_of_size_eq_zero ha, Array.eq_empty_of_size_eq_zero hb]
  ·cases h
 ·simp only [Option.some.injEq, Prod.mk.injEq, DataW.lit.injEq, Lit.int.injEq, true_and] at h
  have h0 : n = 0 := (Int.ofNat_inj.1 h.1).symm
  rw [if_pos h0]
 ·cases h
theorem keyU8 : Keyed Tryz.prog 5 := int_keyed Tryz.underlying5
theorem wfU8 (c : UInt8) : (Lit.int .u8 c.toNat).wf = true := by
 have := c.toNat_lt
 have h1 : IntKind.min .u8 = 0 := by decide
 have h2 : IntKind.max .u8 = 255 := by decide
 simp only [Lit.wf, h1, h2, Bool.and_eq_true, decide_eq_true_eq]
 omega
theorem keyOfU8 (c : UInt8) : keyOf Tryz.prog 5 (.int .u8 c.toNat) = some (.int .u8 c.toNat) :=
 keyOf_int_mk Tryz.underlying5 (wfU8 c)
def TableAt (w : World) (M n : Nat) (f : UInt8 → Nat) : Prop :=
 ∃ D : DataW Unit, IsMap D ∧ w.ownsMap Tryz.prog 5 fnTag M n D ∧ ∀ c : UInt8, D.atKey (.int .u8 c.toNat) (.lit (.int .i64 0)) = .lit (.int .i64 (f c))
theorem key_ne {a b : UInt8} (h : a ≠ b) : (Lit.int .u8 a.toNat) ≠ (Lit.int .u8 b.toNat) := by
 intro e
 simp only [Lit.int.injEq, true_and] at e
 exact h (UInt8.toNat_inj.1 (by omega))
theorem grown_trans {a b c : World} {r : Option Nat} (h : a.grownBy b r) (k : b.grownBy c r) : a.grownBy c r :=
 ⟨k.os.trans h.os, k.tape.trans h.tape, k.output.trans h.output, Nat.le_trans h.size k.size, fun i hi hr => (k.block i (Nat.lt_of_lt_of_le hi h.size) hr).trans (h.block i hi hr)⟩
theorem grown_refl (w : World) (r : Option Nat) : w.grownBy w r := ⟨rfl, rfl, rfl, Nat.le_refl _, fun _ _ _ => rfl⟩
theorem grown_drew {a b : World} {r : Option Nat} (h : a.grownBy b r) : a.grownBy b.drew r := ⟨h.os, h.tape, h.output, h.size, h.block⟩
def putF (s : ByteArray) (t k : Nat) (f : UInt8 → Nat) (c : UInt8) : Nat := if (s.data.toList.take k).contains c then t else f c
theorem putF_zero (s : ByteArray) (t : Nat) (f : UInt8 → Nat) : putF s t 0 f = f := by funext c; unfold putF; simp
theorem putF_succ (s : ByteArray) (t k : Nat) (f : UInt8 → Nat) (h : k < s.size) (c : UInt8) : putF s t (k + 1) f c = if c = s[k] then t else putF s t k f c := by
 unfold putF
 rw [take_snoc s k h]
 by_cases e : c = s[k]
 ·rw [if_pos e, if_pos (by rw [e]; simp)]
 ·rw [if_neg e]
  congr 1
  simp [List.mem_append, e]
theorem cell_not_map {w : World} {P : Program} {k : TypeId} {R : Value → Option (DataW Unit × List MemPlace)} {M n cb : Nat} {D : DataW Unit} {v : Value} (h : w.cell? ⟨cb, 0, none⟩ = some v) (hM : w.ownsMap P k R M n D) : cb ≠ M := by
 intro e
 subst e
 obtain ⟨es, clock, hb, _⟩ := hM
 unfold World.cell? at h
 simp only [hb] at h
 cases h
set_option maxRecDepth 100000 in
set_option maxHeartbeats 1000000 in
theorem set_any (s : ByteArray) (t cb M n : Nat) (f : UInt8 → Nat) (w : World) (ht : t ≠ 0) (hs : s.size ≤ 1000) (hn : n ≤ 1000) (hcb : w.cell? ⟨cb, 0, none⟩ = some (.map (some M))) (hM : TableAt w M n f) :
 Calls Tryz.prog 77 #[.string s, fnV t, .pointer (some ⟨cb, 0, none⟩)] w fun e w' => e = .returned (.tuple #[]) ∧ TableAt w' M (n + s.size) (putF s t s.size f) ∧ w.grownBy w' (some M) := by
 have hne0 : cb ≠ M := by obtain ⟨D, _, hown, _⟩ := hM; exact cell_not_map hcb hown
 go_enter Tryz.func77, Tryz.ntmps77
 go_wp2
 go_loopw [8] (fun i wr => ∃ k : Nat, k ≤ s.size ∧ i = .int .i64 k ∧ TableAt wr M (n + k) (putF s t k f) ∧ w.grownBy wr (some M)) (fun i _ => s.size - (intOf i).toNat)
 case atStart => exact ⟨0, Nat.zero_le _, rfl, by rw [putF_zero]; exact hM, grown_refl _ _⟩
 case round =>
  obtain ⟨k, hk, rfl, hT, hg⟩ := hrel
  by_cases hlt : k < s.size
  ·have hT2 := Lib.hid hT
   have hG := Lib.hid hg
   clear hT hg
   obtain ⟨D, hD, hown, hat⟩ := hT2.out
   have hcell := hG.out.cell hcb (by simpa using hne0)
   have HAT := Lib.hid hat
   clear hat
   go_wp2
   go_still_tail 5, (by kernel_rfl)
   refine wpList_mapUpdate_own _ rfl _ _ _ 72 rfl 5 75 keyU8 Tryz.underlying72 fnTag M (n + k) D rfl hown.drew (by unfold maxLen; omega) (.int .u8 s[k].toNat) (fnV t) (.int .u8 s[k].toNat) rfl rfl (keyOfU8 _) (.lit (.int .i64 t)) [] (fnTag_fnV t ht) ?_
   intro w1 hown1 hgrow1
   go_wp2
   go_roundw
   case rel =>
    refine ⟨k + 1, by omega, by go_num, ⟨_, hD.put _ _, hown1, fun c => ?_⟩, grown_trans (grown_drew hG.out) hgrow1⟩
    rw [putF_succ s t k f hlt]
    by_cases e : c = s[k]
    ·rw [if_pos e, e]; exact atKey_put_same hD ((keyU8).key (keyOfU8 _)) _ _
    ·rw [if_neg e, atKey_put_other (key_ne e)]; exact HAT.out c
   case measure => simp [intOf]; omega
  ·go_wp2
   go_end0
   exact ⟨rfl, by have e : k = s.size := by omega
                  subst e
                  exact hT, hg⟩
end Go.Proofs.YtdckddkalgnlpaaGreatDoor
namespace Go.Proofs.YtdckddkalgnlpaaGreatDoor
open Go.RowKit Go.Maps
def symStarts : List UInt8 := [33, 37, 40, 41, 42, 43, 44, 45, 46, 47, 59, 60, 61, 62, 123, 125]
def tableF (c : UInt8) : Nat := if Lex.letter c then 79 else if Lex.digit c then 78 else if symStarts.contains c then 80 else 0
theorem tableF_eq (c : UInt8) : putF ⟨#[33, 37, 40, 41, 42, 43, 44, 45, 46, 47, 59, 60, 61, 62, 123, 125]⟩ 80 16 (putF ⟨#[97, 98, 99, 100, 101, 102, 103, 104, 105, 106, 107, 108, 109, 110, 111, 112, 113, 114, 115, 116, 117, 118, 119, 120, 121, 122, 65, 66, 67, 68, 69, 70, 71, 72, 73, 74, 75, 76, 77, 78, 79, 80, 81, 82, 83, 84, 85, 86, 87, 88, 89, 90]⟩ 79 52 (putF ⟨#[48, 49, 50, 51, 52, 53, 54, 55, 56, 57]⟩ 78 10 (fun _ => 0))) c = tableF c := by
 revert c; apply all_bytes; decide +kernel
theorem table_made (w : World) : TableAt (w.alloc (.map #[] 0)) w.heap.size 0 (fun _ => 0) :=
 ⟨.map [], isMap_empty, World.ownsMap_made w _ _ _, fun _ => rfl⟩
theorem TableAt.alloc {w : World} {M n : Nat} {f : UInt8 → Nat} (h : TableAt w M n f) (o : Obj) : TableAt (w.alloc o) M n f := by
 obtain ⟨D, h1, h2, h3⟩ := h; exact ⟨D, h1, h2.alloc o, h3⟩
theorem TableAt.keep {w w' : World} {M n : Nat} {f : UInt8 → Nat} (h : TableAt w M n f) (hb : Below w.heap.size w w') : TableAt w' M n f := by
 obtain ⟨D, h1, h2, h3⟩ := h; exact ⟨D, h1, h2.kept (row := none) (below_grown hb) (by simp), h3⟩
set_option maxRecDepth 100000 in
set_option maxHeartbeats 1000000 in
theorem scanners_any (w : World) :
 Calls Tryz.prog 38 #[] w fun e w' => e = .returned (.map (some w.heap.size)) ∧ TableAt w' w.heap.size 78 tableF ∧ Below w.heap.size w w' := by
 have hmm := @run_makeMap Tryz.prog
 go_enter Tryz.func38, Tryz.ntmps38
 go_wp2_with fail
 refine (set_any _ 78 _ w.heap.size 0 (fun _ => 0) _ (by decide) (by decide) (by decide) (by simp) ((table_made w).alloc _)).mono ?_
 rintro e w1 ⟨rfl, hT1, hg1⟩
 have hc1 := hg1.cell (a := ⟨w.heap.size + 1, 0, none⟩) (v := .map (some w.heap.size)) (by simp) (by simp)
 have HT1 := Lib.hid hT1
 clear hT1
 go_wp2_with fail
 refine (set_any _ 79 _ w.heap.size _ _ _ (by decide) (by decide) (by decide) hc1 HT1.out).mono ?_
 rintro e w2 ⟨rfl, hT2, hg2⟩
 have hc2 := hg2.cell (a := ⟨w.heap.size + 1, 0, none⟩) (v := .map (some w.heap.size)) hc1 (by simp)
 have HT2 := Lib.hid hT2
 clear hT2
 go_wp2_with fail
 refine (set_any _ 80 _ w.heap.size _ _ _ (by decide) (by decide) (by decide) hc2 HT2.out).mono ?_
 rintro e w3 ⟨rfl, hT3, hg3⟩
 have hc3 := hg3.cell (a := ⟨w.heap.size + 1, 0, none⟩) (v := .map (some w.heap.size)) hc2 (by simp)
 have HT3 := Lib.hid hT3
 clear hT3
 go_wp2_with fail
 go_ret
 refine ⟨rfl, ?_, ?_⟩
 ·obtain ⟨D, d1, d2, d3⟩ := HT3.out
  exact ⟨D, d1, d2, fun c => by rw [d3 c]; exact congrArg (fun n : Nat => DataW.lit (.int .i64 n)) (tableF_eq c)⟩
 ·exact (((((Below.refl _ _).alloc (Nat.le_refl _) _).alloc (by simp) _).grown hg1 (by simp <;> omega) (fun q hq => by cases hq; exact Nat.le_refl _)).grown hg2 (by have := hg1.size; simp at this; omega) (fun q hq => by cases hq; exact Nat.le_refl _)).grown hg3 (by have := hg1.size; have := hg2.size; simp at *; omega) (fun q hq => by cases hq; exact Nat.le_refl _)
end Go.Proofs.YtdckddkalgnlpaaGreatDoor
