/-
  Identities: the law's awake, walked: the examples of the chapter hold.
-/
import Derived.Test.YtlhkkniebaganaaGreatDoorIdI
namespace Go.Proofs.YtlhkkniebaganaaGreatDoor
open Go.RowKit

theorem ex1 : Id.parse [109, 48, 50, 58, 49] = ((0, 0), 3) := by decide +kernel
theorem ex2 : Id.parse [109, 57, 58, 49] = ((0, 0), 2) := by decide +kernel
theorem ex3 : Id.fmt 2 17 = [109, 50, 58, 49, 55] := by
  unfold Id.fmt
  rw [if_pos (by decide), show (2 : Int).toNat = 2 from rfl, show (17 : Int).toNat = 17 from rfl, Id.dec_small (by omega), Id.dec_big (by omega), Id.dec_small (by omega)]
  decide
theorem ex4 : Id.setL [(2, 1), (1, 5), (2, 1)] = [(1, 5), (2, 1)] := by decide +kernel

/-- what awake keeps from step to step: its two identities -/
structure Aw (w w' : World) : Prop where
  a0 : w'.cell? ⟨w.heap.size, 0, none⟩ = some (.int .i64 2)
  a1 : w'.cell? ⟨w.heap.size, 1, none⟩ = some (.int .i64 1)
  b0 : w'.cell? ⟨w.heap.size + 1, 0, none⟩ = some (.int .i64 1)
  b1 : w'.cell? ⟨w.heap.size + 1, 1, none⟩ = some (.int .i64 5)
  env : IdEnv w'
  below : Below w.heap.size w w'
theorem Aw.keep {w w1 w2 : World} (h : Aw w w1) (hb : Below w1.heap.size w1 w2) : Aw w w2 :=
  ⟨id_cell_keep hb h.a0, id_cell_keep hb h.a1, id_cell_keep hb h.b0, id_cell_keep hb h.b1, h.env.keep hb, h.below.trans (hb.mono h.below.size)⟩
theorem Aw.start (w : World) (h : IdEnv w) : Aw w ((w.alloc (.cells #[.int .i64 2, .int .i64 1] 24)).alloc (.cells #[.int .i64 1, .int .i64 5] 24)) := by
  have hb1 := (Below.refl w.heap.size w).alloc (Nat.le_refl _) (.cells #[.int .i64 2, .int .i64 1] 24)
  have hb2 := (Below.refl (w.alloc (.cells #[.int .i64 2, .int .i64 1] 24)).heap.size (w.alloc (.cells #[.int .i64 2, .int .i64 1] 24))).alloc (Nat.le_refl _) (.cells #[.int .i64 1, .int .i64 5] 24)
  have s1 : (w.alloc (.cells #[.int .i64 2, .int .i64 1] 24)).heap.size = w.heap.size + 1 := by simp
  have c1 := cell_new w 2 1
  have c2 := cell_new (w.alloc (.cells #[.int .i64 2, .int .i64 1] 24)) 1 5
  rw [s1] at c2
  exact ⟨id_cell_keep hb2 c1.1, id_cell_keep hb2 c1.2.1, c2.1, c2.2.1, (h.keep hb1).keep hb2, hb1.trans (hb2.mono (by rw [s1]; omega))⟩
theorem Aw.alloc {w w1 : World} (h : Aw w w1) (o : Obj) : Aw w (w1.alloc o) := h.keep ((Below.refl _ _).alloc (Nat.le_refl _) o)

theorem aw_env {a b c d e f g : Prop} {w : World} (h : a ∧ b ∧ c ∧ d ∧ e ∧ f ∧ Hid (IdEnv w) ∧ g) : IdEnv w := h.2.2.2.2.2.2.1.out
theorem aw_below {a b c d e f g : Prop} {wb w : World} (h : a ∧ b ∧ c ∧ d ∧ e ∧ f ∧ g ∧ Hid (Below wb.heap.size wb w)) : Below wb.heap.size wb w := h.2.2.2.2.2.2.2.out
theorem aw_keep {A B C : Nat} {va0 va1 vb0 vb1 vc0 vc1 : Value} {wb w0 w' : World} (h : w0.cell? ⟨A, 0, none⟩ = some va0 ∧ w0.cell? ⟨A, 1, none⟩ = some va1 ∧ w0.cell? ⟨B, 0, none⟩ = some vb0 ∧ w0.cell? ⟨B, 1, none⟩ = some vb1 ∧ w0.cell? ⟨C, 0, none⟩ = some vc0 ∧ w0.cell? ⟨C, 1, none⟩ = some vc1 ∧ Hid (IdEnv w0) ∧ Hid (Below wb.heap.size wb w0)) (hb : Below w0.heap.size w0 w') :
    w'.cell? ⟨A, 0, none⟩ = some va0 ∧ w'.cell? ⟨A, 1, none⟩ = some va1 ∧ w'.cell? ⟨B, 0, none⟩ = some vb0 ∧ w'.cell? ⟨B, 1, none⟩ = some vb1 ∧ w'.cell? ⟨C, 0, none⟩ = some vc0 ∧ w'.cell? ⟨C, 1, none⟩ = some vc1 ∧ Hid (IdEnv w') ∧ Hid (Below wb.heap.size wb w') :=
  ⟨id_cell_keep hb h.1, id_cell_keep hb h.2.1, id_cell_keep hb h.2.2.1, id_cell_keep hb h.2.2.2.1, id_cell_keep hb h.2.2.2.2.1, id_cell_keep hb h.2.2.2.2.2.1, h.2.2.2.2.2.2.1.out.keep hb, h.2.2.2.2.2.2.2.out.trans (hb.mono h.2.2.2.2.2.2.2.out.size)⟩
theorem below_alloc (w : World) (o : Obj) : Below w.heap.size w (w.alloc o) := (Below.refl _ _).alloc (Nat.le_refl _) o
theorem below_drew (w : World) : Below w.heap.size w w.drew := (Below.refl _ _).drew
theorem ids3_block {W : World} {B : Nat} (h : W.heap[B]? = some (.cells #[.int .i64 2, .int .i64 1, .int .i64 1, .int .i64 5, .int .i64 2, .int .i64 1] 24)) : IdsAt W B 0 [(2, 1), (1, 5), (2, 1)] := by
  intro j a hj
  unfold World.cell?
  simp only [h]
  match j, hj with
  | 0, hj => cases hj; exact ⟨rfl, rfl⟩
  | 1, hj => cases hj; exact ⟨rfl, rfl⟩
  | 2, hj => cases hj; exact ⟨rfl, rfl⟩
  | n + 3, hj => simp at hj
theorem ids2_block {W : World} {B : Nat} (h : W.heap[B]? = some (.cells #[.int .i64 1, .int .i64 5, .int .i64 2, .int .i64 1] 24)) : IdsAt W B 0 [(1, 5), (2, 1)] := by
  intro j a hj
  unfold World.cell?
  simp only [h]
  match j, hj with
  | 0, hj => cases hj; exact ⟨rfl, rfl⟩
  | 1, hj => cases hj; exact ⟨rfl, rfl⟩
  | n + 2, hj => simp at hj
theorem new_block (X : World) (o : Obj) : (X.alloc o).heap[X.heap.size]? = some o := heap_alloc_new X o
theorem old_block (X : World) (o p : Obj) : ((X.alloc o).alloc p).heap[X.heap.size]? = some o := (Below.heap_alloc (X.alloc o) p _ (by simp)).trans (heap_alloc_new X o)
theorem new_block2 (X : World) (o p : Obj) : ((X.alloc o).alloc p).heap[X.heap.size + 1]? = some p := by
  have := heap_alloc_new (X.alloc o) p
  rwa [World.size_alloc] at this
theorem set_ex (g c : Nat) (w : World) (h : IdsAt w g 0 [(2, 1), (1, 5), (2, 1)]) :
    Calls Tryz.prog 7 #[.slice (some ⟨g, 0, none⟩) 3 c] w fun e w' => ∃ g2 cap, e = .returned (.slice (some ⟨g2, 0, none⟩) 2 cap) ∧ IdsAt w' g2 0 [(1, 5), (2, 1)] ∧ g2 < w'.heap.size ∧ Below w.heap.size w w' := by
  refine (set_some g 0 c [(2, 1), (1, 5), (2, 1)] w (by decide) h).mono ?_
  rintro e w' ⟨g2, cap, rfl, _, _, hlt, hat, hb, _⟩
  rw [ex4] at hat
  exact ⟨g2, cap, by rw [ex4]; rfl, hat, hlt, hb⟩
theorem same_ex (g1 g2 c1 c2 : Nat) (w : World) (h1 : IdsAt w g1 0 [(1, 5), (2, 1)]) (h2 : IdsAt w g2 0 [(1, 5), (2, 1)]) :
    Calls Tryz.prog 6 #[.slice (some ⟨g1, 0, none⟩) 2 c1, .slice (some ⟨g2, 0, none⟩) 2 c2] w fun e w' => e = .returned (.bool true) ∧ Below w.heap.size w w' :=
  (same_at g1 g2 0 0 c1 c2 [(1, 5), (2, 1)] [(1, 5), (2, 1)] w rfl (by decide) h1 h2).mono fun _ _ ⟨h, hb⟩ => ⟨h, hb⟩

set_option maxRecDepth 100000 in
set_option maxHeartbeats 4000000 in
theorem awake_any (w : World) (hE : IdEnv w) : Calls Tryz.prog 5 #[] w fun e w' => e = .returned (.bool true) ∧ Below w.heap.size w w' := by
  have h1 : ∀ w0, IdEnv w0 → Calls Tryz.prog 16 #[.string ⟨#[109, 48, 50, 58, 49]⟩] w0 fun e w' => e = .returned (.tuple #[.agg #[.int .i64 0, .int .i64 0], .int .i64 3]) ∧ Below w0.heap.size w0 w' := fun w0 h => by
    have := parse_any ⟨#[109, 48, 50, 58, 49]⟩ w0 h (by decide)
    rw [show (⟨#[109, 48, 50, 58, 49]⟩ : ByteArray).data.toList = [109, 48, 50, 58, 49] from rfl, ex1] at this
    exact this
  have h2 : ∀ w0, IdEnv w0 → Calls Tryz.prog 16 #[.string ⟨#[109, 57, 58, 49]⟩] w0 fun e w' => e = .returned (.tuple #[.agg #[.int .i64 0, .int .i64 0], .int .i64 2]) ∧ Below w0.heap.size w0 w' := fun w0 h => by
    have := parse_any ⟨#[109, 57, 58, 49]⟩ w0 h (by decide)
    rw [show (⟨#[109, 57, 58, 49]⟩ : ByteArray).data.toList = [109, 57, 58, 49] from rfl, ex2] at this
    exact this
  have h3 : ∀ w0, IdEnv w0 → Calls Tryz.prog 19 #[.agg #[.int .i64 2, .int .i64 17]] w0 fun e w' => e = .returned (.string ⟨#[109, 50, 58, 49, 55]⟩) ∧ Below w0.heap.size w0 w' := fun w0 h => by
    have := format_any 2 17 w0 h
    rw [ex3] at this
    exact this
  have H1 := Lib.hid h1
  have H2 := Lib.hid h2
  have H3 := Lib.hid h3
  have HE := Lib.hid hE
  clear h1 h2 h3 hE
  go_enter Tryz.func5, Tryz.ntmps5
  go_wp2_with fail
  have A0 := Lib.hid (Aw.start w HE.out)
  refine (H1.out _ A0.out.env).mono ?_
  rintro e w1 ⟨rfl, hb1⟩
  have A1 := Lib.hid (A0.out.keep hb1)
  clear hb1 A0
  go_wp2_with fail
  refine (H2.out _ (A1.out.alloc _).env).mono ?_
  rintro e w2 ⟨rfl, hb2⟩
  have A2 := Lib.hid ((A1.out.alloc _).keep hb2)
  clear hb2 A1
  go_wp2_with fail
  refine (newIssuer_yes 3 7 _ (by omega) (by omega) (by omega) (by omega)).mono ?_
  rintro e w3 ⟨rfl, hi3, hs3, hb3⟩
  have A2a := Lib.hid (A2.out.alloc (.cells #[.int .i64 0, .int .i64 0] 24))
  have HB3 := Lib.hid hb3
  have HS3 := Lib.hid hs3
  simp only [World.size_alloc] at hi3 hs3
  have I3 := Lib.hid hi3
  clear hb3 A2 hi3
  go_wp2_with fail
  have hnext := next_yes (w2.heap.size + 1) 3 7 w3 I3.out (by omega) (by omega)
  unfold idV at hnext
  have HN := Lib.hid hnext
  clear hnext
  refine HN.out.mono ?_
  rintro e w4 ⟨rfl, _, hg4⟩
  have A4 := Lib.hid (A2a.out.keep (HB3.out.grown hg4 (Nat.le_of_lt HS3.out) (fun k hk => by cases hk; simp)))
  clear hg4 A2a HB3 HS3 hs3 I3 HN
  have hc := cell_new w4 3 8
  have hst := Lib.hid (aw_keep (wb := w) (⟨(A4.out.alloc (.cells #[.int .i64 3, .int .i64 8] 24)).a0, (A4.out.alloc _).a1, (A4.out.alloc _).b0, (A4.out.alloc _).b1, hc.1, hc.2.1, Lib.hid (A4.out.alloc _).env, Lib.hid (A4.out.alloc _).below⟩) (below_drew _))
  have hq : ∀ w, (binOp .eql 24 (.agg #[.int .i64 3, .int .i64 8]) (.agg #[.int .i64 3, .int .i64 8])).run Tryz.prog w = .ok (.bool true) w := fun w => by rw [id_eql]; rfl
  clear A4 hc
  go_wp2_with fail
  go_region_held3 (fun w' => w'.cell? ⟨w.heap.size, 0, none⟩ = some (.int .i64 2) ∧ w'.cell? ⟨w.heap.size, 1, none⟩ = some (.int .i64 1) ∧ w'.cell? ⟨w.heap.size + 1, 0, none⟩ = some (.int .i64 1) ∧ w'.cell? ⟨w.heap.size + 1, 1, none⟩ = some (.int .i64 5) ∧ w'.cell? ⟨w4.heap.size, 0, none⟩ = some (.int .i64 3) ∧ w'.cell? ⟨w4.heap.size, 1, none⟩ = some (.int .i64 8) ∧ Hid (IdEnv w') ∧ Hid (Below w.heap.size w w')) (first | exact aw_keep (by assumption) hb | exact aw_keep (by assumption) (below_alloc _ _) | exact hst.out | exact aw_keep (by assumption) (below_drew _)) (first | (go_at_call 19; refine (H3.out _ (aw_env (by assumption))).mono ?_; rintro e w' ⟨rfl, hb⟩) | (go_at_call 7; refine (set_ex _ _ _ (by first | exact ids3_block (new_block _ _) | exact ids3_block (old_block _ _ _) | exact ids3_block (new_block2 _ _ _))).mono ?_; rintro e w' ⟨g2, cap, rfl, hat, hglt, hb⟩) | (go_at_call 6; refine (same_ex _ _ _ _ _ (by first | exact hat | exact hat.keep (below_alloc _ _) hglt) (by first | exact ids2_block (new_block _ _) | exact ids2_block ((hb.block _ (by simp <;> omega)).trans (old_block _ _ _)) | exact ids2_block ((hb.block _ (by simp <;> omega)).trans (new_block2 _ _ _)))).mono ?_; rintro e w' ⟨rfl, hb⟩))
  all_goals
    have hbf := aw_below (by assumption)
    clear hst
    go_wp2_with fail
    go_ret
    exact ⟨rfl, hbf⟩
end Go.Proofs.YtlhkkniebaganaaGreatDoor
