/-
  The program's lexer: symbol, walked.
-/
import Derived.Test.YthbipapihdppmaaDoorLexProgC
namespace Go.Proofs.YthbipapihdppmaaDoor
open Go.RowKit

theorem contains_sy (T : List UInt8) : Lib.containsS ((List.range 19).map syz) ⟨T.toArray⟩ = syB T := by
  rw [Bool.eq_iff_iff, Lib.containsS_iff]
  unfold syB
  rw [List.contains_iff_mem, List.mem_map]
  constructor
  · rintro ⟨j, hj, he⟩
    have h4 : j < 19 := by simpa using hj
    have hk : j < Lex.symbols.length := h4
    have : (Lex.symbols.getD j []) = T := by
      have h3 := congrArg (fun x : ByteArray => x.data.toList) he
      simpa [syz] using h3
    rw [← this, List.getD_eq_getElem?_getD, List.getElem?_eq_getElem hk]
    exact List.getElem_mem hk
  · intro h
    obtain ⟨j, hj, he⟩ := List.getElem_of_mem h
    have h4 : j < 19 := hj
    refine ⟨j, by simpa using h4, ?_⟩
    unfold syz
    rw [List.getD_eq_getElem?_getD, List.getElem?_eq_getElem hj, Option.getD_some, he]

theorem contains_at (w : World) (b o c : Nat) (T : List UInt8) (h : ∀ j, j < 19 → w.cell? ⟨b, o + j, none⟩ = some (.string (syz j))) :
    Calls Tryd.prog 47 #[.slice (some ⟨b, o, none⟩) 19 c, .string ⟨T.toArray⟩] w fun e w' => e = .returned (.bool (syB T)) ∧ w' = w := by
  have h1 := Tryd.slices_Contains_string b o 19 c ((List.range 19).map syz) ⟨T.toArray⟩ w (by simp) (by omega) (by
    intro j hj
    have hj2 : j < 19 := by simpa using hj
    rw [h j hj2]
    simp [hj2])
  rw [List.take_of_length_le (by simp), contains_sy] at h1
  exact h1

set_option maxRecDepth 100000 in
set_option maxHeartbeats 1000000 in
/-- symbol -/
theorem symbol_any (s : ByteArray) (w : World) (hE : LexEnv w) (hs : s.size ≤ 9223372036854775806) (h0 : 0 < s.size) :
    Calls Tryd.prog 32 #[.string s] w fun e w' => e = .returned (gotV 0 (Lex.symbolAt s.data.toList)) ∧ Below w.heap.size w w' := by
  obtain ⟨b, o, c, h1, h2⟩ := hE.sy
  have hlen := Lib.size_eq s
  obtain ⟨l, hl⟩ : ∃ l, s.data.toList = l := ⟨_, rfl⟩
  rw [hl] at hlen ⊢
  have hx2 : s.extract 0 2 = ⟨(l.take 2).toArray⟩ := by apply bytes_eq; rw [Lib.extract_data, hl]; rfl
  have hx1 : s.extract 0 1 = ⟨(l.take 1).toArray⟩ := by apply bytes_eq; rw [Lib.extract_data, hl]; rfl
  obtain ⟨T2, hT2⟩ : ∃ T, l.take 2 = T := ⟨_, rfl⟩
  obtain ⟨T1, hT1⟩ : ∃ T, l.take 1 = T := ⟨_, rfl⟩
  rw [hT2] at hx2
  rw [hT1] at hx1
  have HL := Lib.hid hlen
  have HT2 := Lib.hid hT2
  have HT1 := Lib.hid hT1
  have H2 := Lib.hid h2
  have hbw := World.block_lt_of_cell? w _ (h2 0 (by omega))
  have hg := World.block_lt_of_cell? w _ h1
  simp only at hbw hg
  clear hlen hl hT2 hT1 h2 hE
  obtain ⟨m, hm, hm2⟩ : ∃ m : Nat, min 2 (s.size : Int) = m ∧ ((m = 2 ∧ 2 ≤ s.size) ∨ (m = 1 ∧ s.size = 1)) := by
    by_cases h : 2 ≤ s.size
    · exact ⟨2, by omega, .inl ⟨rfl, h⟩⟩
    · exact ⟨1, by omega, .inr ⟨rfl, by omega⟩⟩
  have HM := Lib.hid hm2
  clear hm2
  go_enter Tryd.func32, Tryd.ntmps32
  go_wp2
  clear hm
  go_loopw [4] (fun n wr => ∃ k : Nat, n = .int .i64 k ∧ k ≤ 2 ∧ k ≤ s.size ∧ (k < 2 → ¬ (2 ≤ s.size ∧ syB T2 = true)) ∧ (k = 0 → ¬ (syB T1 = true)) ∧ ∃ q, wr = (w.alloc (.cells #[.int .i64 0, .string ⟨#[]⟩, .int .i64 0, .int .i64 0] 30)).drewN q) (fun n _ => (intOf n).toNat)
  case atStart =>
    have hm3 := HM.out
    exact ⟨m, rfl, by omega, by omega, by omega, by omega, 0, rfl⟩
  case round =>
    obtain ⟨k, rfl, hk2, hks, hA, hB, q, rfl⟩ := hrel
    have HA := Lib.hid hA
    have HB := Lib.hid hB
    clear hA hB
    rcases (show k = 0 ∨ k = 1 ∨ k = 2 by omega) with rfl | rfl | rfl
    · go_wp2
      refine bodyPost_ret (v := .tuple #[tokV 0 [] 0 0, .int .i64 3]) (by simp [results, Tryd.results32, go_sem, tokV]) rfl ⟨?_, ?_⟩
      · have h5 := HA.out (by omega)
        have h6 := HB.out trivial
        rw [symbolAt_no (by rw [HT2.out, ← HL.out]; exact h5) (by rw [HT1.out]; show syB T1 = false; simpa using h6)]; rfl
      · ((repeat' (first | (with_reducible exact Below.refl _ _) | (with_reducible refine Below.drew ?_) | (with_reducible refine below_drewN ?_ _) | (with_reducible refine Below.alloc ?_ ?_ _) | (with_reducible refine Below.setCell ?_ ?_ _))) <;> (simp <;> omega))
    · have z1 : (0 : Int) ≤ 1 := by omega
      have z2 : (1 : Int) ≤ (s.size : Int) := by omega
      cases hk : syB T1
      · go_wp2
        go_region_held3 (fun w' => w'.cell? ⟨1, 0, none⟩ = some (.slice (some ⟨b, o, none⟩) 19 c)) (go_keep) (first | (go_at_call 47; refine (contains_at _ _ _ _ _ (by intro j hj; refine Eq.trans ?_ (H2.out j hj); exact World.cell?_of_block (w := w) (Below.heap_alloc w _ b hbw))).mono ?_; rintro e w' ⟨rfl, rfl⟩))
        go_wp2
        go_roundw
        case rel =>
          have h5 := HA.out
          exact ⟨0, by go_num, by omega, by omega, by intro _; exact h5 (by omega), by intro _; simp, _, rfl⟩
        case measure => simp [intOf]
      · have HK := Lib.hid hk
        go_wp2
        go_region_held3 (fun w' => w'.cell? ⟨1, 0, none⟩ = some (.slice (some ⟨b, o, none⟩) 19 c)) (go_keep) (first | (go_at_call 47; refine (contains_at _ _ _ _ _ (by intro j hj; refine Eq.trans ?_ (H2.out j hj); exact World.cell?_of_block (w := w) (Below.heap_alloc w _ b hbw))).mono ?_; rintro e w' ⟨rfl, rfl⟩))
        go_wp2
        refine bodyPost_ret (v := .tuple #[tokV 5 T1 0 0, .int .i64 0]) (by simp [results, Tryd.results32, go_sem, tokV]) rfl ⟨?_, ?_⟩
        · have h5 := HA.out (by omega)
          rw [symbolAt_one (by rw [HT2.out, ← HL.out]; exact h5) (by rw [HT1.out]; exact HK.out), HT1.out]; rfl
        · ((repeat' (first | (with_reducible exact Below.refl _ _) | (with_reducible refine Below.drew ?_) | (with_reducible refine below_drewN ?_ _) | (with_reducible refine Below.alloc ?_ ?_ _) | (with_reducible refine Below.setCell ?_ ?_ _))) <;> (simp <;> omega))
    · have z1 : (0 : Int) ≤ 2 := by omega
      have z2 : (2 : Int) ≤ (s.size : Int) := by omega
      cases hk : syB T2
      · go_wp2
        go_region_held3 (fun w' => w'.cell? ⟨1, 0, none⟩ = some (.slice (some ⟨b, o, none⟩) 19 c)) (go_keep) (first | (go_at_call 47; refine (contains_at _ _ _ _ _ (by intro j hj; refine Eq.trans ?_ (H2.out j hj); exact World.cell?_of_block (w := w) (Below.heap_alloc w _ b hbw))).mono ?_; rintro e w' ⟨rfl, rfl⟩))
        go_wp2
        go_roundw
        case rel => exact ⟨1, by go_num, by omega, by omega, by intro _; simp, by omega, _, rfl⟩
        case measure => simp [intOf]
      · have HK := Lib.hid hk
        go_wp2
        go_region_held3 (fun w' => w'.cell? ⟨1, 0, none⟩ = some (.slice (some ⟨b, o, none⟩) 19 c)) (go_keep) (first | (go_at_call 47; refine (contains_at _ _ _ _ _ (by intro j hj; refine Eq.trans ?_ (H2.out j hj); exact World.cell?_of_block (w := w) (Below.heap_alloc w _ b hbw))).mono ?_; rintro e w' ⟨rfl, rfl⟩))
        go_wp2
        refine bodyPost_ret (v := .tuple #[tokV 5 T2 0 0, .int .i64 0]) (by simp [results, Tryd.results32, go_sem, tokV]) rfl ⟨?_, ?_⟩
        · rw [symbolAt_two (by rw [← HL.out]; omega) (by rw [HT2.out]; exact HK.out), HT2.out]; rfl
        · ((repeat' (first | (with_reducible exact Below.refl _ _) | (with_reducible refine Below.drew ?_) | (with_reducible refine below_drewN ?_ _) | (with_reducible refine Below.alloc ?_ ?_ _) | (with_reducible refine Below.setCell ?_ ?_ _))) <;> (simp <;> omega))
end Go.Proofs.YthbipapihdppmaaDoor
