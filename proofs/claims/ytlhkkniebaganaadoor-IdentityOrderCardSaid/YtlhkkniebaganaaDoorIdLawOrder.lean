/-
  The law IdentityOrder, walked.
-/
import Derived.Test.YtlhkkniebaganaaDoorIdJ
namespace Go.Proofs.YtlhkkniebaganaaDoor
open Go.RowKit

theorem ord_below {a b c d e f : Prop} {wb w : World} (h : a ∧ b ∧ c ∧ d ∧ e ∧ f ∧ Hid (Below wb.heap.size wb w)) : Below wb.heap.size wb w := h.2.2.2.2.2.2.out
theorem ord_keep {A B C : Nat} {va0 va1 vb0 vb1 vc0 vc1 : Value} {wb w0 w' : World} (h : w0.cell? ⟨A, 0, none⟩ = some va0 ∧ w0.cell? ⟨A, 1, none⟩ = some va1 ∧ w0.cell? ⟨B, 0, none⟩ = some vb0 ∧ w0.cell? ⟨B, 1, none⟩ = some vb1 ∧ w0.cell? ⟨C, 0, none⟩ = some vc0 ∧ w0.cell? ⟨C, 1, none⟩ = some vc1 ∧ Hid (Below wb.heap.size wb w0)) (hb : Below w0.heap.size w0 w') :
    w'.cell? ⟨A, 0, none⟩ = some va0 ∧ w'.cell? ⟨A, 1, none⟩ = some va1 ∧ w'.cell? ⟨B, 0, none⟩ = some vb0 ∧ w'.cell? ⟨B, 1, none⟩ = some vb1 ∧ w'.cell? ⟨C, 0, none⟩ = some vc0 ∧ w'.cell? ⟨C, 1, none⟩ = some vc1 ∧ Hid (Below wb.heap.size wb w') :=
  ⟨id_cell_keep hb h.1, id_cell_keep hb h.2.1, id_cell_keep hb h.2.2.1, id_cell_keep hb h.2.2.2.1, id_cell_keep hb h.2.2.2.2.1, id_cell_keep hb h.2.2.2.2.2.1, h.2.2.2.2.2.2.out.trans (hb.mono h.2.2.2.2.2.2.out.size)⟩

/-- the three boxes of the parameters -/
def box3 (w : World) (a b c : Id.I) : World := ((w.alloc (.cells #[.int .i64 a.1, .int .i64 a.2] 23)).alloc (.cells #[.int .i64 b.1, .int .i64 b.2] 23)).alloc (.cells #[.int .i64 c.1, .int .i64 c.2] 23)
theorem box3_cells (w : World) (a b c : Id.I) : (box3 w a b c).cell? ⟨w.heap.size, 0, none⟩ = some (.int .i64 a.1) ∧ (box3 w a b c).cell? ⟨w.heap.size, 1, none⟩ = some (.int .i64 a.2) ∧ (box3 w a b c).cell? ⟨w.heap.size + 1, 0, none⟩ = some (.int .i64 b.1) ∧ (box3 w a b c).cell? ⟨w.heap.size + 1, 1, none⟩ = some (.int .i64 b.2) ∧
    (box3 w a b c).cell? ⟨w.heap.size + 2, 0, none⟩ = some (.int .i64 c.1) ∧ (box3 w a b c).cell? ⟨w.heap.size + 2, 1, none⟩ = some (.int .i64 c.2) ∧ Hid (Below w.heap.size w (box3 w a b c)) := by
  have c1 := cell_new w a.1 a.2
  have c2 := cell_new (w.alloc (.cells #[.int .i64 a.1, .int .i64 a.2] 23)) b.1 b.2
  have c3 := cell_new ((w.alloc (.cells #[.int .i64 a.1, .int .i64 a.2] 23)).alloc (.cells #[.int .i64 b.1, .int .i64 b.2] 23)) c.1 c.2
  simp only [World.size_alloc] at c2 c3
  have b1 := below_alloc w (.cells #[.int .i64 a.1, .int .i64 a.2] 23)
  have b2 := below_alloc (w.alloc (.cells #[.int .i64 a.1, .int .i64 a.2] 23)) (.cells #[.int .i64 b.1, .int .i64 b.2] 23)
  have b3 := below_alloc ((w.alloc (.cells #[.int .i64 a.1, .int .i64 a.2] 23)).alloc (.cells #[.int .i64 b.1, .int .i64 b.2] 23)) (.cells #[.int .i64 c.1, .int .i64 c.2] 23)
  exact ⟨id_cell_keep b3 (id_cell_keep b2 c1.1), id_cell_keep b3 (id_cell_keep b2 c1.2.1), id_cell_keep b3 c2.1, id_cell_keep b3 c2.2.1, c3.1, c3.2.1, (b1.trans (b2.mono (by simp))).trans (b3.mono (by simp; omega))⟩

theorem cmp_call {a b : Id.I} {x : Int} (h : Id.cmp a b = x) : ∀ w, Calls Tryd.prog 15 #[.agg #[.int .i64 a.1, .int .i64 a.2], .agg #[.int .i64 b.1, .int .i64 b.2]] w fun e w' => e = .returned (.int .i64 x) ∧ Below w.heap.size w w' := fun w => by
  have := compare_any a b w
  rw [h] at this
  exact this
theorem cmpRef_call {a b : Id.I} {x : Int} (h : Id.cmp a b = x) : ∀ w, Calls Tryd.prog 16 #[.agg #[.int .i64 a.1, .int .i64 a.2], .agg #[.int .i64 b.1, .int .i64 b.2]] w fun e w' => e = .returned (.int .i64 x) ∧ Below w.heap.size w w' := fun w => by
  have := compareRef_any a b w
  rw [h] at this
  exact this

set_option maxRecDepth 100000 in
set_option maxHeartbeats 4000000 in
theorem law_order (a b c : Id.I) (w : World) (hE : IdEnv w) :
    Calls Tryd.prog 5 #[idV a, idV b, idV c] w fun e w' => e = .returned (.bool true) ∧ Below w.heap.size w w' := by
  obtain ⟨x, hx⟩ : ∃ x, Id.cmp a b = x := ⟨_, rfl⟩
  obtain ⟨y, hy⟩ : ∃ y, Id.cmp b c = y := ⟨_, rfl⟩
  obtain ⟨z, hz⟩ : ∃ z, Id.cmp a c = z := ⟨_, rfl⟩
  have hba : Id.cmp b a = -x := by rw [Id.cmp_swap, hx]
  have hx3 : x = -1 ∨ x = 0 ∨ x = 1 := by rw [← hx]; exact Id.cmp_three a b
  have K1 := Lib.hid (cmp_call hx)
  have K2 := Lib.hid (cmp_call hy)
  have K3 := Lib.hid (cmp_call hz)
  have K4 := Lib.hid (cmpRef_call hx)
  have K5 := Lib.hid (cmp_call hba)
  have hzz : x ≤ 0 → y ≤ 0 → z ≤ 0 := by rw [← hx, ← hy, ← hz]; exact Id.cmp_le_trans
  have heq : ∀ w, (binOp .eql 23 (.agg #[.int .i64 a.1, .int .i64 a.2]) (.agg #[.int .i64 b.1, .int .i64 b.2])).run Tryd.prog w = .ok (.bool (x == 0)) w := fun w => by
    by_cases e : a = b
    · rw [e, id_eql_t, ← hx, e, (Id.cmp_zero b b).2 rfl]; rfl
    · rw [id_eql_f w e]
      have : x ≠ 0 := fun h => e ((Id.cmp_zero a b).1 (hx.trans h))
      rw [beq_eq_false_iff_ne.2 this]
  have HZ := Lib.hid hzz
  have HE := Lib.hid hE
  have HC := Lib.hid (box3_cells w a b c)
  have HEQ := Lib.hid heq
  have hae : IdEnv (box3 w a b c) := hE.keep HC.out.2.2.2.2.2.2.out
  have HA := Lib.hid (awake_any (box3 w a b c) hae)
  clear hx hy hz hba hzz hE heq hae
  unfold idV
  obtain ⟨a1, a2⟩ := a
  obtain ⟨b1, b2⟩ := b
  obtain ⟨c1, c2⟩ := c
  simp only [] at K1 K2 K3 K4 K5 HEQ
  unfold box3 at HA HC
  simp only [] at HA HC
  go_enter Tryd.func5, Tryd.ntmps5
  go_wp2_with fail
  refine HA.out.mono ?_
  rintro e w1 ⟨rfl, hb1⟩
  have hS1 := Lib.hid (ord_keep HC.out hb1)
  have hS1d := Lib.hid (ord_keep hS1.out (below_drew w1))
  clear hb1 HC HA
  go_wp2_with fail
  go_region_held3 (fun w' => w'.cell? ⟨w.heap.size, 0, none⟩ = some (.int .i64 a1) ∧ w'.cell? ⟨w.heap.size, 1, none⟩ = some (.int .i64 a2) ∧ w'.cell? ⟨w.heap.size + 1, 0, none⟩ = some (.int .i64 b1) ∧ w'.cell? ⟨w.heap.size + 1, 1, none⟩ = some (.int .i64 b2) ∧ w'.cell? ⟨w.heap.size + 2, 0, none⟩ = some (.int .i64 c1) ∧ w'.cell? ⟨w.heap.size + 2, 1, none⟩ = some (.int .i64 c2) ∧ Hid (Below w.heap.size w w')) (first | exact ord_keep (by assumption) hb | exact hS1d.out | exact ord_keep (by assumption) (below_drew _)) (first | (go_at_call 15; (with_reducible refine (K1.out _).mono ?_); rintro e w' ⟨rfl, hb⟩) | (go_at_call 15; (with_reducible refine (K2.out _).mono ?_); rintro e w' ⟨rfl, hb⟩) | (go_at_call 15; (with_reducible refine (K3.out _).mono ?_); rintro e w' ⟨rfl, hb⟩))
  rename_i w2a hb2a w2b hb2b hheld
  have HS2 := Lib.hid hheld
  obtain ⟨p0, p1, q0, q1, _, _, _⟩ := hheld
  have HEQ2 := HEQ.out
  clear hb hb2b hb2a hS1 hS1d HEQ
  have hlo : -1 ≤ x := by omega
  have hhi : x ≤ 1 := by omega
  clear hx3
  have f1 : (x != x) = false := by simp
  have f2 : (-x != -x) = false := by simp
  have f3 : ((x == 0) != (x == 0)) = false := by simp
  go_wp2_with fail
  refine (K4.out _).mono ?_
  rintro e w3 ⟨rfl, hb3⟩
  have hs3 := ord_keep HS2.out hb3
  have HS3 := Lib.hid hs3
  obtain ⟨p0, p1, q0, q1, _, _, _⟩ := hs3
  clear hb3 HS2
  go_wp2_with fail
  refine (K5.out _).mono ?_
  rintro e w4 ⟨rfl, hb4⟩
  have hs4 := ord_keep HS3.out hb4
  have HS4 := Lib.hid hs4
  obtain ⟨p0, p1, q0, q1, _, _, _⟩ := hs4
  clear hb4 HS3
  go_wp2_with fail
  all_goals
    go_ret
    refine ⟨ret_bool ?_, ord_below HS4.out⟩
    first | rfl | exact decide_eq_true (HZ.out (by assumption) (by assumption)) | simp | (trace_state; sorry)
end Go.Proofs.YtlhkkniebaganaaDoor
