/-
  The law IdentityIssues, walked.
-/
import Derived.Test.YtlhkkniebaganaaDoorIdJ
namespace Go.Proofs.YtlhkkniebaganaaDoor
open Go.RowKit

theorem id_neq_agg (x y : Int) (w : World) : (binOp .neq 23 (.agg #[.int .i64 x, .int .i64 y]) (.agg #[.int .i64 x, .int .i64 y])).run Tryd.prog w = .ok (.bool false) w := id_neq_t w (x, y)
theorem id_eql_agg (x y : Int) (w : World) : (binOp .eql 23 (.agg #[.int .i64 x, .int .i64 y]) (.agg #[.int .i64 x, .int .i64 y])).run Tryd.prog w = .ok (.bool true) w := id_eql_t w (x, y)
theorem IssAt.kept {w w' : World} {b : Nat} {m l : Int} (h : IssAt w b m l) (hb : Below w.heap.size w w') : IssAt w' b m l := h.keep hb
theorem last_eq (b : Nat) (m l : Int) (w : World) (h : IssAt w b m l) : Calls Tryd.prog 18 #[.pointer (some ⟨b, 0, none⟩)] w fun e w' => e = .returned (.int .i64 l) ∧ w = w' := last_any b m l w h

set_option maxRecDepth 100000 in
set_option maxHeartbeats 2000000 in
/-- a wrong machine or a wrong last serial -/
theorem issues_no (m l : Int) (n : Int) (w : World) (hE : IdEnv w) (hno : m < 1 ∨ 8 < m ∨ l < 0 ∨ 1099511627775 < l) :
    Calls Tryd.prog 6 #[.int .i64 m, .int .i64 l, .int .u8 n] w fun e w' => e = .returned (.bool true) ∧ Below w.heap.size w w' := by
  have HA := Lib.hid (awake_any w hE)
  have HN := Lib.hid (fun w0 => newIssuer_no m l w0 hno)
  clear hE
  by_cases a : m < 1 <;> by_cases b : 8 < m <;> by_cases c : l < 0 <;> by_cases d : 1099511627775 < l <;> try omega
  all_goals
    clear hno
    go_enter Tryd.func6, Tryd.ntmps6
    go_wp2_with fail
    refine HA.out.mono ?_
    rintro e w1 ⟨rfl, hb1⟩
    go_wp2_with fail
    refine (HN.out _).mono ?_
    rintro e w' ⟨rfl, rfl⟩
    go_wp2_with fail
    go_ret
    exact ⟨rfl, hb1⟩

set_option maxRecDepth 100000 in
set_option maxHeartbeats 4000000 in
theorem issues_yes (m l : Int) (n : Int) (h0 : 0 ≤ n) (h255 : n ≤ 255) (w : World) (hE : IdEnv w) (h1 : 1 ≤ m) (h2 : m ≤ 8) (h3 : 0 ≤ l) (h4 : l ≤ 1099511627775) :
    Calls Tryd.prog 6 #[.int .i64 m, .int .i64 l, .int .u8 n] w fun e w' => e = .returned (.bool true) ∧ Below w.heap.size w w' := by
  have HA := Lib.hid (awake_any w hE)
  have HN := Lib.hid (fun w0 => newIssuer_yes m l w0 h1 h2 h3 h4)
  clear hE
  have e1 : decide (m < 1) = false := by simp; omega
  have e2 : decide ((8 : Int) < m) = false := by simp; omega
  have e3 : decide (l < 0) = false := by simp; omega
  have e4 : decide ((1099511627775 : Int) < l) = false := by simp; omega
  go_enter Tryd.func6, Tryd.ntmps6
  go_wp2_with fail
  refine HA.out.mono ?_
  rintro e w1 ⟨rfl, hb1⟩
  have s1 := hb1.size
  go_wp2_with fail
  refine (HN.out _).mono ?_
  rintro e w2 ⟨rfl, hi2, hs2, hb2⟩
  obtain ⟨B, hB⟩ : ∃ B, w1.heap.size = B := ⟨_, rfl⟩
  rw [hB] at hi2 hs2 hb2 s1 ⊢
  have HBB := Lib.hid hB
  have HI2 := Lib.hid hi2
  have HB2 := Lib.hid (hb1.trans (hb2.mono s1))
  have lne : (l != l) = false := by simp
  clear hi2 hb1 hb2 HN HA hB
  go_wp2_with fail
  refine (last_any _ _ _ _ HI2.out).mono ?_
  rintro e w' ⟨rfl, rfl⟩
  go_wp2_with fail
  go_loopw [1, 9] (fun s1 s9 wr => ∃ k : Nat, k ≤ 20 ∧ s1 = .int .i64 (l + (k : Int)) ∧ s9 = .int .i64 ((k : Int) + 1) ∧ l + (k : Int) ≤ 1099511627775 ∧ B < wr.heap.size ∧ IssAt wr B m (l + (k : Int)) ∧ Below w.heap.size w wr) (fun _ s9 _ => 22 - (intOf s9).toNat)
  case atStart => exact ⟨0, by omega, by simp, rfl, by simpa using h4, hs2, by simpa using HI2.out, HB2.out⟩
  case round =>
    obtain ⟨k, hk, rfl, rfl, hle, hBl, hiss, hbel⟩ := hrel
    have HI := Lib.hid hiss
    have HBE := Lib.hid hbel
    have hsz := hbel.size
    clear hiss hbel HI2 HB2 hs2
    have hm0 : 0 ≤ n % 20 := Int.emod_nonneg _ (by omega)
    have hm1 : n % 20 < 20 := Int.emod_lt_of_pos _ (by omega)
    have hl0 : 0 ≤ l + (k : Int) := by omega
    by_cases hin : (k : Int) + 1 ≤ n % 20
    · by_cases hmax : l + (k : Int) = 1099511627775
      · have HM := Lib.hid hmax
        have hN := next_no B m (l + (k : Int)) wr HI.out (by omega)
        unfold idV at hN
        have HN := Lib.hid hN
        have hmb : ((l + (k : Int)) == 1099511627775) = true := by rw [hmax]; rfl
        clear hN hmax
        go_wp2_with fail
        refine HN.out.mono ?_
        rintro e w3 ⟨rfl, hb3⟩
        have HI3 := Lib.hid (HI.out.keep hb3)
        have HB3 := Lib.hid (HBE.out.trans (hb3.mono hsz))
        clear hb3
        have hq := id_eql_agg 0 0
        go_wp2_with fail
        refine (last_any B m (l + (k : Int)) _ (HI3.out.keep (below_alloc _ _))).mono ?_
        rintro e w' ⟨rfl, rfl⟩
        go_wp2_with fail
        go_ret
        exact ⟨by simp, HB3.out.trans ((below_alloc _ _).mono HB3.out.size)⟩
      · have hN := next_yes B m (l + (k : Int)) wr HI.out hl0 (by omega)
        unfold idV at hN
        have HN := Lib.hid hN
        have hmb : ((l + (k : Int)) == 1099511627775) = false := by rw [beq_eq_false_iff_ne]; exact hmax
        have hle2 : l + (k : Int) < 1099511627775 := by omega
        have hV : ∀ w0, Calls Tryd.prog 11 #[.agg #[.int .i64 m, .int .i64 (l + (k : Int) + 1)]] w0 fun e w' => e = .returned (.bool true) ∧ Below w0.heap.size w0 w' := fun w0 => by
          have := valid_any m (l + (k : Int) + 1) w0
          rw [show Id.validB m (l + (k : Int) + 1) = true from decide_eq_true ⟨h1, h2, by omega, by omega⟩] at this
          exact this
        have HV := Lib.hid hV
        clear hN hmax hV
        go_wp2_with fail
        refine HN.out.mono ?_
        rintro e w3 ⟨rfl, hi3, hg3⟩
        have HI3 := Lib.hid hi3
        have HB3 := Lib.hid (HBE.out.grown hg3 hsz (fun q hq => by cases hq; exact s1))
        have hB3 : B < w3.heap.size := Nat.lt_of_lt_of_le hBl hg3.size
        clear hg3 hi3 HN HI HBE
        have hq := id_neq_agg m (l + (k : Int) + 1)
        go_wp2_with fail
        refine (HV.out _).mono ?_
        rintro e w4 ⟨rfl, hb4⟩
        have HI4 := Lib.hid ((HI3.out.keep (below_alloc w3 (.cells #[.int .i64 m, .int .i64 (l + (k : Int) + 1)] 23))).keep hb4)
        have HB4 := Lib.hid ((HB3.out.trans ((below_alloc w3 (.cells #[.int .i64 m, .int .i64 (l + (k : Int) + 1)] 23)).mono HB3.out.size)).trans (hb4.mono (by have := HB3.out.size; simp; omega)))
        have hB4 : B < w4.heap.size := Nat.lt_of_lt_of_le hB3 (Nat.le_trans (by simp) hb4.size)
        clear hb4 HI3 HB3 hB3 hq
        go_wp2_with fail
        refine (last_any B m (l + (k : Int) + 1) _ HI4.out).mono ?_
        rintro e w' ⟨rfl, rfl⟩
        go_wp2_with fail
        go_roundw
        case rel =>
          have e1 : l + ((k + 1 : Nat) : Int) = l + (k : Int) + 1 := by omega
          refine ⟨k + 1, by omega, by rw [e1], by congr 1, by omega, hB4, by rw [e1]; exact HI4.out, HB4.out⟩
        case measure => simp [intOf]; omega
    · go_wp2_with fail
      go_ret
      exact ⟨rfl, HBE.out⟩

theorem law_issues (m l n : Int) (h : (Lit.int .u8 n).wf = true) (w : World) (hE : IdEnv w) :
    Calls Tryd.prog 6 #[.int .i64 m, .int .i64 l, .int .u8 n] w fun e w' => e = .returned (.bool true) ∧ Below w.heap.size w w' := by
  by_cases hno : m < 1 ∨ 8 < m ∨ l < 0 ∨ 1099511627775 < l
  · exact issues_no m l n w hE hno
  · have e1 : IntKind.min .u8 = 0 := by decide
    have e2 : IntKind.max .u8 = 255 := by decide
    simp only [Lit.wf, e1, e2, Bool.and_eq_true, decide_eq_true_eq] at h
    exact issues_yes m l n h.1 h.2 w hE (by omega) (by omega) (by omega) (by omega)
end Go.Proofs.YtlhkkniebaganaaDoor
