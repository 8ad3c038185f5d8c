/-
  Identities: the reference's Compare, ValidID, Valid, walked.
-/
import Derived.Test.YtlhkkniebaganaaGreatDoorIdA
namespace Go.Proofs.YtlhkkniebaganaaGreatDoor
open Go.RowKit

theorem id_eql (w : World) (a1 a2 b1 b2 : Int) :
    (binOp .eql 24 (.agg #[.int .i64 a1, .int .i64 a2]) (.agg #[.int .i64 b1, .int .i64 b2])).run Tryz.prog w = .ok (.bool (a1 == b1 && a2 == b2)) w := by
  rw [run_eql_struct, run_equalIn_struct w 9999 _ _ _ idT idHeld]
  by_cases h1 : a1 = b1 <;> by_cases h2 : a2 = b2 <;> simp [go_sem, Tryz.underlying24, h1, h2]
theorem id_neq (w : World) (a1 a2 b1 b2 : Int) :
    (binOp .neq 24 (.agg #[.int .i64 a1, .int .i64 a2]) (.agg #[.int .i64 b1, .int .i64 b2])).run Tryz.prog w = .ok (.bool (!(a1 == b1 && a2 == b2))) w := by
  rw [run_neq_struct, run_equalIn_struct w 9999 _ _ _ idT idHeld]
  by_cases h1 : a1 = b1 <;> by_cases h2 : a2 = b2 <;> simp [go_sem, Tryz.underlying24, h1, h2]


set_option maxHeartbeats 1000000 in
theorem compareRef_any (a b : Id.I) (w : World) : Calls Tryz.prog 37 #[idV a, idV b] w fun e w' => e = .returned (.int .i64 (Id.cmp a b)) ∧ Below w.heap.size w w' := by
  obtain ⟨a1, a2⟩ := a
  obtain ⟨b1, b2⟩ := b
  unfold idV
  obtain ⟨c, hc⟩ : ∃ c, Id.cmp (a1, a2) (b1, b2) = c := ⟨_, rfl⟩
  have HC := Lib.hid hc
  rw [hc]
  have hq : ∀ w, (binOp .eql 24 (.agg #[.int .i64 a1, .int .i64 a2]) (.agg #[.int .i64 b1, .int .i64 b2])).run Tryz.prog w = .ok (.bool (a1 == b1 && a2 == b2)) w := fun w => id_eql w a1 a2 b1 b2
  clear hc
  rcases Int.lt_trichotomy a1 b1 with h | h | h
  · have e1 : (a1 == b1) = false := by rw [beq_eq_false_iff_ne]; omega
    rw [show (a1 == b1 && a2 == b2) = false by rw [e1]; rfl] at hq
    go_enter Tryz.func37, Tryz.ntmps37
    go_wp2
    go_ret
    exact ⟨ret_i64 (by rw [← HC.out]; unfold Id.cmp; rw [if_pos h]), ((Below.refl _ _).alloc (Nat.le_refl _) _).alloc (by simp) _⟩
  · subst h
    have e1 : (a1 == a1) = true := by simp
    have n1 : ¬ a1 < a1 := by omega
    rcases Int.lt_trichotomy a2 b2 with k | k | k
    · have e2 : (a2 == b2) = false := by rw [beq_eq_false_iff_ne]; omega
      rw [show (a1 == a1 && a2 == b2) = false by rw [e2]; simp] at hq
      go_enter Tryz.func37, Tryz.ntmps37
      go_wp2
      go_ret
      exact ⟨ret_i64 (by rw [← HC.out]; unfold Id.cmp; simp only []; rw [if_neg (by omega), if_neg (by omega), if_pos k]), ((Below.refl _ _).alloc (Nat.le_refl _) _).alloc (by simp) _⟩
    · subst k
      rw [show (a1 == a1 && a2 == a2) = true by simp] at hq
      go_enter Tryz.func37, Tryz.ntmps37
      go_wp2
      go_ret
      exact ⟨ret_i64 (by rw [← HC.out, (Id.cmp_zero _ _).2 rfl]), ((Below.refl _ _).alloc (Nat.le_refl _) _).alloc (by simp) _⟩
    · have e2 : (a2 == b2) = false := by rw [beq_eq_false_iff_ne]; omega
      have n2 : ¬ a2 < b2 := by omega
      rw [show (a1 == a1 && a2 == b2) = false by rw [e2]; simp] at hq
      go_enter Tryz.func37, Tryz.ntmps37
      go_wp2
      go_ret
      exact ⟨ret_i64 (by rw [← HC.out]; unfold Id.cmp; simp only []; rw [if_neg (by omega), if_neg (by omega), if_neg (by omega), if_pos k]), ((Below.refl _ _).alloc (Nat.le_refl _) _).alloc (by simp) _⟩
  · have e1 : (a1 == b1) = false := by rw [beq_eq_false_iff_ne]; omega
    have n1 : ¬ a1 < b1 := by omega
    rw [show (a1 == b1 && a2 == b2) = false by rw [e1]; rfl] at hq
    go_enter Tryz.func37, Tryz.ntmps37
    go_wp2
    go_ret
    exact ⟨ret_i64 (by rw [← HC.out]; unfold Id.cmp; simp only []; rw [if_neg (by omega), if_pos h]), ((Below.refl _ _).alloc (Nat.le_refl _) _).alloc (by simp) _⟩
end Go.Proofs.YtlhkkniebaganaaGreatDoor
