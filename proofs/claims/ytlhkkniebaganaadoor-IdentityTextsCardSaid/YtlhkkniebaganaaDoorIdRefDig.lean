/-
  Identities: the reference's Digits and Format, walked.
-/
import Derived.Test.YtlhkkniebaganaaDoorIdRefParse
import Derived.Test.YtlhkkniebaganaaDoorIdI
import Derived.Laws.BytesArg
namespace Go.Proofs.YtlhkkniebaganaaDoor
open Go.RowKit

theorem new_cell1 {W : World} {h0 : Array Obj} {cs : Array Value} {t : TypeId} {b : Nat} (hW : W.heap = h0.push (.cells cs t)) (hb : b = h0.size) (j : Nat) (u : Value) (h : cs[j]? = some u) : W.cell? ⟨b, j, none⟩ = some u := by
  unfold World.cell?
  simp [hW, hb]
  simpa using h
theorem conv1 (w : World) (m : Nat) (x : Int) (hx : x = 48 + (m : Int) % 10) : (convert 67 9 (.slice (some ⟨w.heap.size, 0, none⟩) 1 1)).run Tryd.prog (w.alloc (.cells #[.int .u8 x] 5)) = .ok (.string ⟨#[Id.dig m]⟩) (w.alloc (.cells #[.int .u8 x] 5)) := by
  subst hx
  have hc : ∀ i, i < 1 → (w.alloc (.cells #[.int .u8 (48 + (m : Int) % 10)] 5)).cell? ⟨w.heap.size, 0 + i, none⟩ = some (.int .u8 ([48 + (m : Int) % 10].getD i 0)) := by
    intro i hi
    have h0 : i = 0 := by omega
    subst h0
    exact new_cell1 rfl rfl _ _ rfl
  rw [run_convert_bytes_arg _ 67 5 Tryd.underlying67 Tryd.underlying5 w.heap.size 0 1 1 [48 + (m : Int) % 10] rfl hc _ Tryd.underlying9]
  congr 2
theorem conv1d (w : World) (m : Nat) (x : Int) (hx : x = 48 + (m : Int) % 10) : (convert 67 9 (.slice (some ⟨w.heap.size, 0, none⟩) 1 1)).run Tryd.prog (w.alloc (.cells #[.int .u8 x] 5)).drew = .ok (.string ⟨#[Id.dig m]⟩) (w.alloc (.cells #[.int .u8 x] 5)).drew := by
  subst hx
  have hc : ∀ i, i < 1 → (w.alloc (.cells #[.int .u8 (48 + (m : Int) % 10)] 5)).drew.cell? ⟨w.heap.size, 0 + i, none⟩ = some (.int .u8 ([48 + (m : Int) % 10].getD i 0)) := by
    intro i hi
    have h0 : i = 0 := by omega
    subst h0
    exact new_cell1 rfl rfl _ _ rfl
  rw [run_convert_bytes_arg _ 67 5 Tryd.underlying67 Tryd.underlying5 w.heap.size 0 1 1 [48 + (m : Int) % 10] rfl hc _ Tryd.underlying9]
  congr 2
theorem conv_keep {w w' : World} {m : Nat} (hb : Below (w.alloc (.cells #[.int .u8 (48 + (m : Int) % 10)] 5)).drew.heap.size (w.alloc (.cells #[.int .u8 (48 + (m : Int) % 10)] 5)).drew w') : (convert 67 9 (.slice (some ⟨w.heap.size, 0, none⟩) 1 1)).run Tryd.prog w' = .ok (.string ⟨#[Id.dig m]⟩) w' := by
  have hc : ∀ i, i < 1 → w'.cell? ⟨w.heap.size, 0 + i, none⟩ = some (.int .u8 ([48 + (m : Int) % 10].getD i 0)) := by
    intro i hi
    have h0 : i = 0 := by omega
    subst h0
    rw [hb.cell (by simp)]
    show (w.alloc (.cells #[.int .u8 (48 + (m : Int) % 10)] 5)).cell? _ = _
    exact new_cell1 rfl rfl _ _ rfl
  rw [run_convert_bytes_arg _ 67 5 Tryd.underlying67 Tryd.underlying5 w.heap.size 0 1 1 [48 + (m : Int) % 10] rfl hc _ Tryd.underlying9]
  congr 2
theorem dec_str {n : Nat} (h : ¬ n < 10) {A : ByteArray} (hA : ⟨(Id.dec (n / 10)).toArray⟩ = A) : A ++ ⟨#[Id.dig n]⟩ = ⟨(Id.dec n).toArray⟩ := by
  subst hA
  apply bytes_eq
  rw [ByteArray.data_append, Array.toList_append, Id.dec_big h]

theorem dig_keep {wb w0 w' : World} (h : Hid (Below wb.heap.size wb w0)) (hb : Below w0.heap.size w0 w') : Hid (Below wb.heap.size wb w') := h.out.trans (hb.mono h.out.size)
theorem dig_1 {w w' : World} (hb : Below w.drew.heap.size w.drew w') : Below w.heap.size w w' := (Below.refl w.heap.size w).drew.trans hb
theorem dig_2 {w w' : World} {o : Obj} (hb : Below (w.alloc o).drew.heap.size (w.alloc o).drew w') : Below w.heap.size w w' :=
  ((Below.refl w.heap.size w).alloc (Nat.le_refl _) o).drew.trans (hb.mono (by simp))
theorem dig_below {wb w0 : World} (h : Hid (Below wb.heap.size wb w0)) : Below wb.heap.size wb w0 := h.out
theorem rfmt_below {a b : Prop} {wb w : World} (h : a ∧ b ∧ Hid (Below wb.heap.size wb w)) : Below wb.heap.size wb w := h.2.2.out
theorem rfmt_keep {B : Nat} {m n : Int} {wb w0 w' : World} (h : w0.cell? ⟨B, 0, none⟩ = some (.int .i64 m) ∧ w0.cell? ⟨B, 1, none⟩ = some (.int .i64 n) ∧ Hid (Below wb.heap.size wb w0)) (hb : Below w0.heap.size w0 w') :
    w'.cell? ⟨B, 0, none⟩ = some (.int .i64 m) ∧ w'.cell? ⟨B, 1, none⟩ = some (.int .i64 n) ∧ Hid (Below wb.heap.size wb w') :=
  ⟨id_cell_keep hb h.1, id_cell_keep hb h.2.1, h.2.2.out.trans (hb.mono h.2.2.out.size)⟩
theorem dig_alloc {wb w0 : World} {o : Obj} (h : Hid (Below wb.heap.size wb w0)) : Hid (Below wb.heap.size wb (w0.alloc o)) := h.out.alloc h.out.size _
set_option maxRecDepth 100000 in
set_option maxHeartbeats 1000000 in
theorem digits_any : ∀ (n : Nat) (w : World), n ≤ 1099511627775 →
    Calls Tryd.prog 29 #[.int .u64 n] w fun e w' => e = .returned (.string ⟨(Id.dec n).toArray⟩) ∧ Below w.heap.size w w' := by
  intro n
  induction n using Nat.strongRecOn with
  | ind n ih =>
    intro w hn
    by_cases h : n < 10
    · have hcv := conv1 w n (48 + (n : Int)) (by omega)
      go_enter Tryd.func29, Tryd.ntmps29
      go_wp2_with fail
      go_ret
      exact ⟨ret_str (by rw [Id.dec_small h]), (Below.refl _ _).alloc (Nat.le_refl _) _⟩
    · have hcv := fun w => conv1 w n (48 + (n : Int) % 10) rfl
      have hcvd := fun w => conv1d w n (48 + (n : Int) % 10) rfl
      have hi := fun w0 => ih (n / 10) (by omega) w0 (by omega)
      have hl : (Id.dec (n / 10)).length ≤ 13 := dec_len13 (by omega)
      obtain ⟨A, hA⟩ : ∃ A : ByteArray, ⟨(Id.dec (n / 10)).toArray⟩ = A := ⟨_, rfl⟩
      have hs : A.size ≤ 13 := by rw [← hA]; exact hl
      have hfin := dec_str h hA
      rw [hA] at hi
      have k1 : ¬ 9223372036854775807 < A.size + 1 := by omega
      have hq : ((n / 10 : Nat) : Int) = (n : Int) / 10 := by omega
      rw [hq] at hi
      clear hq
      have q1 : IntKind.u64.wrap ((n : Int) / 10) = (n : Int) / 10 := IntWalk.u64_in _ (by omega)
      have q2 : (n : Int).tmod 10 = (n : Int) % 10 := Int.tmod_eq_emod_of_nonneg (by omega)
      have q3 : IntKind.u64.wrap (48 + (n : Int) % 10) = 48 + (n : Int) % 10 := IntWalk.u64_in _ (by omega)
      have q4 : IntKind.u8.wrap (48 + (n : Int) % 10) = 48 + (n : Int) % 10 := by rw [IntKind.wrap_u8]; omega
      have HI := Lib.hid hi
      have HB := Lib.hid (Below.refl w.heap.size w)
      have HBd := Lib.hid (Below.refl w.heap.size w).drew
      have HF := Lib.hid hfin
      clear hi hfin hA hl ih
      go_enter Tryd.func29, Tryd.ntmps29
      go_wp2_with fail
      go_region_with (first | (go_at_call 29; refine (HI.out _).mono ?_; rintro e w' ⟨rfl, hb⟩; have hcv2 := conv_keep hb) | (go_at_call 29; refine (HI.out _).mono ?_; rintro e w' ⟨rfl, hb⟩))
      all_goals
        (first | have hbf := dig_1 (w := w) hb | have hbf := dig_2 (w := w) hb)
        clear hb
        go_wp2_with fail
        go_ret
        first
          | exact ⟨ret_str HF.out, hbf⟩
          | exact ⟨ret_str HF.out, hbf.alloc hbf.size _⟩

theorem u64_machine {n : Int} (h0 : 1 ≤ n) (h1 : n ≤ 1099511627775) : IntKind.u64.wrap n = n := IntWalk.u64_in n ⟨by omega, by omega⟩
set_option maxRecDepth 100000 in
set_option maxHeartbeats 1000000 in
theorem rformat_any (m n : Int) (w : World) :
    Calls Tryd.prog 14 #[.agg #[.int .i64 m, .int .i64 n]] w fun e w' => e = .returned (.string ⟨(Id.fmt m n).toArray⟩) ∧ Below w.heap.size w w' := by
  have hV := fun w0 => validRef_any m n w0
  cases hv : Id.validB m n
  · rw [hv] at hV
    have HV := Lib.hid hV
    have H := Lib.hid hv
    clear hV hv
    go_enter Tryd.func14, Tryd.ntmps14
    go_wp2_with fail
    refine (HV.out _).mono ?_
    rintro e w1 ⟨rfl, hb1⟩
    go_wp2_with fail
    go_ret
    exact ⟨ret_str (by unfold Id.fmt; rw [H.out]; rfl), ((Below.refl _ _).alloc (Nat.le_refl _) _).trans (hb1.mono (by simp))⟩
  · rw [hv] at hV
    have hr : 1 ≤ m ∧ m ≤ 8 ∧ 1 ≤ n ∧ n ≤ 1099511627775 := of_decide_eq_true hv
    have hI1 : ∀ w0, Calls Tryd.prog 29 #[.int .u64 m] w0 fun e w' => e = .returned (.string ⟨(Id.dec m.toNat).toArray⟩) ∧ Below w0.heap.size w0 w' := fun w0 => by
      have := digits_any m.toNat w0 (by omega)
      rwa [Int.toNat_of_nonneg (by omega)] at this
    have hI2 : ∀ w0, Calls Tryd.prog 29 #[.int .u64 n] w0 fun e w' => e = .returned (.string ⟨(Id.dec n.toNat).toArray⟩) ∧ Below w0.heap.size w0 w' := fun w0 => by
      have := digits_any n.toNat w0 (by omega)
      rwa [Int.toNat_of_nonneg (by omega)] at this
    have hl1 : (Id.dec m.toNat).length ≤ 13 := dec_len13 (by omega)
    have hl2 : (Id.dec n.toNat).length ≤ 13 := dec_len13 (by omega)
    have hfin : (⟨#[109]⟩ : ByteArray) ++ ⟨(Id.dec m.toNat).toArray⟩ ++ ⟨#[58]⟩ ++ ⟨(Id.dec n.toNat).toArray⟩ = ⟨(Id.fmt m n).toArray⟩ := by
      apply bytes_eq
      rw [ByteArray.data_append, Array.toList_append, ByteArray.data_append, Array.toList_append, ByteArray.data_append, Array.toList_append]
      unfold Id.fmt
      rw [if_pos hv]
      simp
    obtain ⟨A, hA⟩ : ∃ A : ByteArray, ⟨(Id.dec m.toNat).toArray⟩ = A := ⟨_, rfl⟩
    obtain ⟨B, hB⟩ : ∃ B : ByteArray, ⟨(Id.dec n.toNat).toArray⟩ = B := ⟨_, rfl⟩
    have hsA : A.size ≤ 13 := by rw [← hA]; exact hl1
    have hsB : B.size ≤ 13 := by rw [← hB]; exact hl2
    rw [hA] at hI1 hfin
    rw [hB] at hI2 hfin
    have u1 : IntKind.u64.wrap m = m := u64_machine hr.1 (by omega)
    have u2 : IntKind.u64.wrap n = n := u64_machine hr.2.2.1 (by omega)
    have HV := Lib.hid hV
    have H1 := Lib.hid hI1
    have H2 := Lib.hid hI2
    have HF := Lib.hid hfin
    clear hV hv hI1 hI2 hr hl1 hl2 hfin hA hB
    go_enter Tryd.func14, Tryd.ntmps14
    go_wp2_with fail
    refine (HV.out _).mono ?_
    rintro e w1 ⟨rfl, hb1⟩
    have hn0 := cell_new w m n
    have hlt : w.heap.size < (w.alloc (.cells #[.int .i64 m, .int .i64 n] 23)).heap.size := by simp
    have c0 := (hb1.cell (p := ⟨w.heap.size, 0, none⟩) hlt).trans hn0.1
    have c1 := (hb1.cell (p := ⟨w.heap.size, 1, none⟩) hlt).trans hn0.2.1
    have hbw := (Below.refl w.heap.size w).alloc (Nat.le_refl _) (.cells #[.int .i64 m, .int .i64 n] 23)
    have HB := Lib.hid (hbw.trans (hb1.mono (by omega)))
    clear hb1 hn0 hbw hlt
    have k1 : ¬ 9223372036854775807 < 1 + A.size := by omega
    have k2 : ¬ 9223372036854775807 < 1 + A.size + 1 := by omega
    have k3 : ¬ 9223372036854775807 < 1 + A.size + 1 + B.size := by omega
    have HBd : Hid (Below w.heap.size w w1.drew) := Lib.hid HB.out.drew
    go_wp2_with fail
    go_region_held3 (fun w' => w'.cell? ⟨w.heap.size, 0, none⟩ = some (.int .i64 m) ∧ w'.cell? ⟨w.heap.size, 1, none⟩ = some (.int .i64 n) ∧ Hid (Below w.heap.size w w')) (first | exact rfmt_keep (by assumption) hb | exact ⟨c0, c1, HBd⟩ | go_keep) (first | ((with_reducible refine (H1.out _).mono ?_); rintro e w' ⟨rfl, hb⟩) | ((with_reducible refine (H2.out _).mono ?_); rintro e w' ⟨rfl, hb⟩))
    all_goals
      have hbf := rfmt_below (by assumption)
      go_wp2_with fail
      go_ret
      exact ⟨ret_str HF.out, hbf⟩
end Go.Proofs.YtlhkkniebaganaaDoor
