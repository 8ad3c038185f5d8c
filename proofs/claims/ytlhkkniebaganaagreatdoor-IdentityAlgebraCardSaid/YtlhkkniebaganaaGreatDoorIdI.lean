/-
  Identities: the program's Format, walked.
-/
import Derived.Test.YtlhkkniebaganaaGreatDoorIdH
namespace Go.Proofs.YtlhkkniebaganaaGreatDoor
open Go.RowKit

theorem decDigits_dec : ∀ n, Lib.decDigits n = Id.dec n := by
  intro n
  induction n using Nat.strongRecOn with
  | ind n ih =>
    by_cases h : n < 10
    · rw [Lib.decDigits, dif_pos h, Id.dec_small h]
      unfold Id.dig
      rw [Nat.mod_eq_of_lt h]
    · rw [Lib.decDigits, dif_neg h, Id.dec_big h, ih (n / 10) (by omega)]
      rfl
theorem itoa_any (n : Int) (w : World) (hE : IdEnv w) (h0 : 0 ≤ n) (h1 : n ≤ 1099511627775) :
    Calls Tryz.prog 34 #[.int .i64 n] w fun e w' => e = .returned (.string ⟨(Id.dec n.toNat).toArray⟩) ∧ Below w.heap.size w w' := by
  refine (Tryz.strconv_Itoa n (by omega) (by omega) w hE.tab).mono ?_
  rintro e w' ⟨rfl, k, os, rfl⟩
  refine ⟨?_, ⟨rfl, rfl, rfl, by simp [Go.Sort.grow, World.drewN], fun k hk => Go.Sort.heap_grow_old _ _ hk⟩⟩
  unfold Lib.itoa
  rw [if_neg (by omega), decDigits_dec]
theorem dec_len13 {n : Nat} (h : n ≤ 1099511627775) : (Id.dec n).length ≤ 13 := Id.dec_len 12 n (by omega)

theorem ret_str {a b : ByteArray} (h : a = b) : Ending.returned (.string a) = .returned (.string b) := by rw [h]

theorem env_of {a b c : Prop} {w : World} (h : a ∧ b ∧ Hid (IdEnv w) ∧ c) : IdEnv w := h.2.2.1.out
theorem fmt_below {a b c : Prop} {wb w : World} (h : a ∧ b ∧ c ∧ Hid (Below wb.heap.size wb w)) : Below wb.heap.size wb w := h.2.2.2.out
theorem fmt_keep {B : Nat} {m n : Int} {wb w0 w' : World} (h : w0.cell? ⟨B, 0, none⟩ = some (.int .i64 m) ∧ w0.cell? ⟨B, 1, none⟩ = some (.int .i64 n) ∧ Hid (IdEnv w0) ∧ Hid (Below wb.heap.size wb w0)) (hb : Below w0.heap.size w0 w') :
    w'.cell? ⟨B, 0, none⟩ = some (.int .i64 m) ∧ w'.cell? ⟨B, 1, none⟩ = some (.int .i64 n) ∧ Hid (IdEnv w') ∧ Hid (Below wb.heap.size wb w') :=
  ⟨id_cell_keep hb h.1, id_cell_keep hb h.2.1, h.2.2.1.out.keep hb, h.2.2.2.out.trans (hb.mono h.2.2.2.out.size)⟩

set_option maxRecDepth 100000 in
set_option maxHeartbeats 1000000 in
theorem format_any (m n : Int) (w : World) (hE : IdEnv w) :
    Calls Tryz.prog 19 #[.agg #[.int .i64 m, .int .i64 n]] w fun e w' => e = .returned (.string ⟨(Id.fmt m n).toArray⟩) ∧ Below w.heap.size w w' := by
  have hV := fun w0 => valid_any m n w0
  have HE := Lib.hid hE
  cases hv : Id.validB m n
  · rw [hv] at hV
    have HV := Lib.hid hV
    have H := Lib.hid hv
    clear hV hE hv
    go_enter Tryz.func19, Tryz.ntmps19
    go_wp2_with fail
    refine (HV.out _).mono ?_
    rintro e w1 ⟨rfl, hb1⟩
    go_wp2_with fail
    go_ret
    exact ⟨ret_str (by unfold Id.fmt; rw [H.out]; rfl), ((Below.refl _ _).alloc (Nat.le_refl _) _).trans (hb1.mono (by simp))⟩
  · rw [hv] at hV
    have hr : 1 ≤ m ∧ m ≤ 8 ∧ 1 ≤ n ∧ n ≤ 1099511627775 := of_decide_eq_true hv
    have hI1 : ∀ w0, IdEnv w0 → Calls Tryz.prog 34 #[.int .i64 m] w0 fun e w' => e = .returned (.string ⟨(Id.dec m.toNat).toArray⟩) ∧ Below w0.heap.size w0 w' := fun w0 h => itoa_any m w0 h (by omega) (by omega)
    have hI2 : ∀ w0, IdEnv w0 → Calls Tryz.prog 34 #[.int .i64 n] w0 fun e w' => e = .returned (.string ⟨(Id.dec n.toNat).toArray⟩) ∧ Below w0.heap.size w0 w' := fun w0 h => itoa_any n w0 h (by omega) (by omega)
    have hl1 : (Id.dec m.toNat).length ≤ 13 := dec_len13 (by omega)
    have hl2 : (Id.dec n.toNat).length ≤ 13 := dec_len13 (by omega)
    have hfin : (⟨#[109]⟩ : ByteArray) ++ ⟨(Id.dec m.toNat).toArray⟩ ++ ⟨#[58]⟩ ++ ⟨(Id.dec n.toNat).toArray⟩ = ⟨(Id.fmt m n).toArray⟩ := by
      apply bytes_eq
      rw [ByteArray.data_append, Array.toList_append, ByteArray.data_append, Array.toList_append, ByteArray.data_append, Array.toList_append]
      unfold Id.fmt
      rw [if_pos hv]
      simp
    obtain ⟨A, hA⟩ : ∃ A : ByteArray, ⟨(Id.dec m.toNat).toArray⟩ = A := ⟨_, rfl⟩
    obtain ⟨B, hB⟩ : ∃ B : ByteArray, ⟨(Id.dec n.toNat).toArray⟩ = B := ⟨_, rfl⟩
    have hsA : A.size ≤ 13 := by rw [← hA]; exact hl1
    have hsB : B.size ≤ 13 := by rw [← hB]; exact hl2
    rw [hA] at hI1 hfin
    rw [hB] at hI2 hfin
    have HV := Lib.hid hV
    have H1 := Lib.hid hI1
    have H2 := Lib.hid hI2
    have HF := Lib.hid hfin
    clear hV hE hv hI1 hI2 hr hl1 hl2 hfin hA hB
    go_enter Tryz.func19, Tryz.ntmps19
    go_wp2_with fail
    refine (HV.out _).mono ?_
    rintro e w1 ⟨rfl, hb1⟩
    have hn0 := cell_new w m n
    have hlt : w.heap.size < (w.alloc (.cells #[.int .i64 m, .int .i64 n] 24)).heap.size := by simp
    have c0 := (hb1.cell (p := ⟨w.heap.size, 0, none⟩) hlt).trans hn0.1
    have c1 := (hb1.cell (p := ⟨w.heap.size, 1, none⟩) hlt).trans hn0.2.1
    have hbw := (Below.refl w.heap.size w).alloc (Nat.le_refl _) (.cells #[.int .i64 m, .int .i64 n] 24)
    have HB := Lib.hid (hbw.trans (hb1.mono (by omega)))
    have HE1 := Lib.hid (HE.out.keep HB.out)
    clear hb1 hn0 hbw hlt
    have k1 : ¬ 9223372036854775807 < 1 + A.size := by omega
    have k2 : ¬ 9223372036854775807 < 1 + A.size + 1 := by omega
    have k3 : ¬ 9223372036854775807 < 1 + A.size + 1 + B.size := by omega
    have HEd : Hid (IdEnv w1.drew) := Lib.hid (HE1.out.keep (Below.refl _ _).drew)
    have HBd : Hid (Below w.heap.size w w1.drew) := Lib.hid HB.out.drew
    go_wp2_with fail
    go_region_held3 (fun w' => w'.cell? ⟨w.heap.size, 0, none⟩ = some (.int .i64 m) ∧ w'.cell? ⟨w.heap.size, 1, none⟩ = some (.int .i64 n) ∧ Hid (IdEnv w') ∧ Hid (Below w.heap.size w w')) (first | exact fmt_keep (by assumption) hb | exact ⟨c0, c1, HEd, HBd⟩ | go_keep) (first | (go_at_call 34; refine (H1.out _ (env_of (by assumption))).mono ?_; rintro e w' ⟨rfl, hb⟩) | (go_at_call 34; refine (H2.out _ (env_of (by assumption))).mono ?_; rintro e w' ⟨rfl, hb⟩))
    all_goals
      have hbf := fmt_below (by assumption)
      go_wp2_with fail
      go_ret
      exact ⟨ret_str HF.out, hbf⟩
end Go.Proofs.YtlhkkniebaganaaGreatDoor
