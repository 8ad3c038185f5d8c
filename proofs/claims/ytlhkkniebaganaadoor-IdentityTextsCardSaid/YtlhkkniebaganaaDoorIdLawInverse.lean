/-
  The law IdentityInverse, walked.
-/
import Derived.Test.YtlhkkniebaganaaDoorIdLawIssues
namespace Go.Proofs.YtlhkkniebaganaaDoor
open Go.RowKit

theorem fmt_len (m n : Int) : (Id.fmt m n).length ≤ 28 := by
  unfold Id.fmt
  by_cases h : Id.validB m n = true
  · rw [if_pos h]
    have hv : 1 ≤ m ∧ m ≤ 8 ∧ 1 ≤ n ∧ n ≤ 1099511627775 := of_decide_eq_true h
    have h1 := dec_len13 (n := m.toNat) (by omega)
    have h2 := dec_len13 (n := n.toNat) (by omega)
    simp only [List.length_cons, List.length_append]
    omega
  · rw [if_neg h]; simp

set_option maxRecDepth 100000 in
set_option maxHeartbeats 4000000 in
theorem law_inverse (a : Id.I) (s : ByteArray) (w : World) (hE : IdEnv w) :
    Calls Tryd.prog 4 #[idV a, .string s] w fun e w' => e = .returned (.bool true) ∧ Below w.heap.size w w' := by
  obtain ⟨m, n⟩ := a
  have HE := Lib.hid hE
  have hbw := below_alloc w (.cells #[.int .i64 m, .int .i64 n] 23)
  have HA := Lib.hid (awake_any _ (hE.keep hbw))
  have hc := cell_new w m n
  have hlt : w.heap.size < (w.alloc (.cells #[.int .i64 m, .int .i64 n] 23)).heap.size := by simp
  have HBW := Lib.hid hbw
  have HC := Lib.hid hc
  unfold idV
  clear hE hbw hc
  by_cases h60 : 60 < s.size
  · go_enter Tryd.func4, Tryd.ntmps4
    go_wp2_with fail
    refine HA.out.mono ?_
    rintro e w1 ⟨rfl, hb1⟩
    go_wp2_with fail
    go_ret
    exact ⟨rfl, HBW.out.trans (hb1.mono (by simp))⟩
  · have h60' : s.size ≤ 60 := by omega
    have h60b : decide ((60 : Int) < (s.size : Int)) = false := by simp; omega
    clear h60
    -- what comes behind the first part
    have hpc : ∀ w0, IdEnv w0 → Calls Tryd.prog 9 #[.string s] w0 fun e w' => e = .returned (.tuple #[.agg #[.int .i64 (Id.parse s.data.toList).1.1, .int .i64 (Id.parse s.data.toList).1.2], .int .i64 (Id.parse s.data.toList).2]) ∧ Below w0.heap.size w0 w' := fun w0 h => parse_any s w0 h (by omega)
    have hcase : ((Id.parse s.data.toList).2 = 0 ∧ Id.validB (Id.parse s.data.toList).1.1 (Id.parse s.data.toList).1.2 = true ∧ Id.fmt (Id.parse s.data.toList).1.1 (Id.parse s.data.toList).1.2 = s.data.toList) ∨ ((Id.parse s.data.toList).2 ≠ 0 ∧ (Id.parse s.data.toList).1 = (0, 0)) := by
      by_cases h : (Id.parse s.data.toList).2 = 0
      · exact .inl ⟨h, Id.parse_ok h⟩
      · exact .inr ⟨h, Id.parse_bad h⟩
    obtain ⟨⟨⟨p1, p2⟩, pe⟩, hp⟩ : ∃ p, Id.parse s.data.toList = p := ⟨_, rfl⟩
    rw [hp] at hpc hcase
    simp only [] at hpc hcase
    have HP := Lib.hid hpc
    have hvc := fun w0 => valid_any p1 p2 w0
    have hfc : ∀ w0, IdEnv w0 → _ := fun w0 h => format_any p1 p2 w0 h
    have hVa := fun w0 => valid_any m n w0
    have hFa := fun w0 h => format_any m n w0 h
    have hPa : Id.validB m n = true → ∀ w0, IdEnv w0 → Calls Tryd.prog 9 #[.string ⟨(Id.fmt m n).toArray⟩] w0 fun e w' => e = .returned (.tuple #[.agg #[.int .i64 m, .int .i64 n], .int .i64 0]) ∧ Below w0.heap.size w0 w' := fun hv w0 h => by
      have := parse_any ⟨(Id.fmt m n).toArray⟩ w0 h (by rw [Lib.size_eq]; have := fmt_len m n; show (Id.fmt m n).length ≤ 1000; omega)
      rw [show (⟨(Id.fmt m n).toArray⟩ : ByteArray).data.toList = Id.fmt m n from rfl, Id.parse_fmt hv] at this
      exact this
    have hq := id_neq_agg m n
    clear hp hpc
    have ent : ∀ w1, Below (w.alloc (.cells #[.int .i64 m, .int .i64 n] 23)).heap.size (w.alloc (.cells #[.int .i64 m, .int .i64 n] 23)) w1 → w1.cell? ⟨w.heap.size, 0, none⟩ = some (.int .i64 m) ∧ w1.cell? ⟨w.heap.size, 1, none⟩ = some (.int .i64 n) ∧ Hid (IdEnv w1) ∧ Hid (Below w.heap.size w w1) := fun w1 hb1 =>
      ⟨(hb1.cell (p := ⟨w.heap.size, 0, none⟩) hlt).trans HC.out.1, (hb1.cell (p := ⟨w.heap.size, 1, none⟩) hlt).trans HC.out.2.1, Lib.hid ((HE.out.keep HBW.out).keep hb1), Lib.hid (HBW.out.trans (hb1.mono (by simp)))⟩
    have HEN := Lib.hid ent
    clear ent hlt
    cases hv : Id.validB m n
    · rw [hv] at hVa
      have HVA := Lib.hid hVa
      have hF : (⟨(Id.fmt m n).toArray⟩ : ByteArray) = ⟨#[]⟩ := by unfold Id.fmt; rw [hv]; rfl
      rw [hF] at hFa
      have HFA := Lib.hid hFa
      clear hPa hVa hFa hF hv
      go_enter Tryd.func4, Tryd.ntmps4
      go_wp2_with fail
      refine HA.out.mono ?_
      rintro e w1 ⟨rfl, hb1⟩
      have HS1 := Lib.hid (HEN.out w1 hb1)
      obtain ⟨c0, c1, _, _⟩ := HS1.out
      clear hb1 HA HC HBW HEN
      go_wp2_with fail
      refine (HVA.out _).mono ?_
      rintro e w2 ⟨rfl, hb2⟩
      have HS2 := Lib.hid (fmt_keep HS1.out hb2)
      obtain ⟨d0, d1, _, _⟩ := HS2.out
      clear hb2 c0 c1
      go_wp2_with fail
      refine (HFA.out _ HS2.out.2.2.1.out).mono ?_
      rintro e w4 ⟨rfl, hb4⟩
      have HS4 := Lib.hid (fmt_keep HS2.out hb4)
      clear hb4 d0 d1
      go_wp2_with fail
      refine (HP.out _ HS4.out.2.2.1.out).mono ?_
      rintro e w5 ⟨rfl, hb5⟩
      have HS5 := Lib.hid (fmt_keep HS4.out hb5)
      have HW5 := HS5.out.2.2.1
      rcases hcase with ⟨hz, hval, hfm⟩ | ⟨hnz, hpz⟩
      · obtain rfl := hz
        have hvc2 := hvc
        have hfc2 := hfc
        rw [hval] at hvc2
        rw [hfm, Lib.mk_data] at hfc2
        have HV2 := Lib.hid hvc2
        have HF2 := Lib.hid hfc2
        have HN5 := Lib.hid (cell_new w5 p1 p2)
        have HBA := Lib.hid (below_alloc w5 (.cells #[.int .i64 p1, .int .i64 p2] 23))
        clear hvc2 hfc2 hvc hfc hval hfm hb5
        go_wp2_with fail
        refine (HV2.out _).mono ?_
        rintro e w6 ⟨rfl, hb6⟩
        have hl5 : w5.heap.size < (w5.alloc (.cells #[.int .i64 p1, .int .i64 p2] 23)).heap.size := by simp
        have k0 := (hb6.cell (p := ⟨w5.heap.size, 0, none⟩) hl5).trans HN5.out.1
        have k1 := (hb6.cell (p := ⟨w5.heap.size, 1, none⟩) hl5).trans HN5.out.2.1
        have HS6 := Lib.hid (fmt_keep (fmt_keep HS5.out HBA.out) hb6)
        clear hb6 hl5 HN5 HBA
        go_wp2_with fail
        refine (HF2.out _ HS6.out.2.2.1.out).mono ?_
        rintro e w7 ⟨rfl, hb7⟩
        have HS7 := Lib.hid (fmt_keep HS6.out hb7)
        clear hb7
        go_wp2_with fail
        go_ret
        exact ⟨by simp, HS7.out.2.2.2.out⟩
      · cases hpz
        have hne : (pe != 0) = true := by rw [bne_iff_ne]; exact hnz
        have HBA := Lib.hid (below_alloc w5 (.cells #[.int .i64 0, .int .i64 0] 23))
        have hq0 := id_eql_agg 0 0
        clear hnz hvc hfc hb5
        go_wp2_with fail
        go_ret
        exact ⟨rfl, HS5.out.2.2.2.out.trans (HBA.out.mono HS5.out.2.2.2.out.size)⟩
    · have HPA := Lib.hid (hPa hv)
      rw [hv] at hVa
      have HVA := Lib.hid hVa
      obtain ⟨F, hF⟩ : ∃ F : ByteArray, ⟨(Id.fmt m n).toArray⟩ = F := ⟨_, rfl⟩
      rw [hF] at hFa HPA
      have HFA := Lib.hid hFa
      clear hPa hVa hFa hF hv
      go_enter Tryd.func4, Tryd.ntmps4
      go_wp2_with fail
      refine HA.out.mono ?_
      rintro e w1 ⟨rfl, hb1⟩
      have HS1 := Lib.hid (HEN.out w1 hb1)
      obtain ⟨c0, c1, _, _⟩ := HS1.out
      clear hb1 HA HC HBW HEN
      go_wp2_with fail
      refine (HVA.out _).mono ?_
      rintro e w2 ⟨rfl, hb2⟩
      have HS2 := Lib.hid (fmt_keep HS1.out hb2)
      obtain ⟨d0, d1, _, _⟩ := HS2.out
      clear hb2 c0 c1
      go_wp2_with fail
      refine (HFA.out _ HS2.out.2.2.1.out).mono ?_
      rintro e w3 ⟨rfl, hb3⟩
      have HS3 := Lib.hid (fmt_keep HS2.out hb3)
      clear hb3 d0 d1
      go_wp2_with fail
      refine (HPA.out _ HS3.out.2.2.1.out).mono ?_
      rintro e w3b ⟨rfl, hb3b⟩
      have HS3b := Lib.hid (fmt_keep HS3.out hb3b)
      have HS4 := Lib.hid (fmt_keep HS3b.out (below_alloc w3b (.cells #[.int .i64 m, .int .i64 n] 23)))
      obtain ⟨g0, g1, _, _⟩ := HS4.out
      clear hb3b
      go_wp2_with fail
      refine (HP.out _ HS4.out.2.2.1.out).mono ?_
      rintro e w5 ⟨rfl, hb5⟩
      have HS5 := Lib.hid (fmt_keep HS4.out hb5)
      have HW5 := HS5.out.2.2.1
      rcases hcase with ⟨hz, hval, hfm⟩ | ⟨hnz, hpz⟩
      · obtain rfl := hz
        have hvc2 := hvc
        have hfc2 := hfc
        rw [hval] at hvc2
        rw [hfm, Lib.mk_data] at hfc2
        have HV2 := Lib.hid hvc2
        have HF2 := Lib.hid hfc2
        have HN5 := Lib.hid (cell_new w5 p1 p2)
        have HBA := Lib.hid (below_alloc w5 (.cells #[.int .i64 p1, .int .i64 p2] 23))
        clear hvc2 hfc2 hvc hfc hval hfm hb5
        go_wp2_with fail
        refine (HV2.out _).mono ?_
        rintro e w6 ⟨rfl, hb6⟩
        have hl5 : w5.heap.size < (w5.alloc (.cells #[.int .i64 p1, .int .i64 p2] 23)).heap.size := by simp
        have k0 := (hb6.cell (p := ⟨w5.heap.size, 0, none⟩) hl5).trans HN5.out.1
        have k1 := (hb6.cell (p := ⟨w5.heap.size, 1, none⟩) hl5).trans HN5.out.2.1
        have HS6 := Lib.hid (fmt_keep (fmt_keep HS5.out HBA.out) hb6)
        clear hb6 hl5 HN5 HBA
        go_wp2_with fail
        refine (HF2.out _ HS6.out.2.2.1.out).mono ?_
        rintro e w7 ⟨rfl, hb7⟩
        have HS7 := Lib.hid (fmt_keep HS6.out hb7)
        clear hb7
        go_wp2_with fail
        go_ret
        exact ⟨by simp, HS7.out.2.2.2.out⟩
      · cases hpz
        have hne : (pe != 0) = true := by rw [bne_iff_ne]; exact hnz
        have HBA := Lib.hid (below_alloc w5 (.cells #[.int .i64 0, .int .i64 0] 23))
        have hq0 := id_eql_agg 0 0
        clear hnz hvc hfc hb5
        go_wp2_with fail
        go_ret
        exact ⟨rfl, HS5.out.2.2.2.out.trans (HBA.out.mono HS5.out.2.2.2.out.size)⟩
end Go.Proofs.YtlhkkniebaganaaDoor
