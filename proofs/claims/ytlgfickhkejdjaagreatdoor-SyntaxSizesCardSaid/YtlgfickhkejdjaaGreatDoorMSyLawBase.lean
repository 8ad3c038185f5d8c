/-
  What the laws of chapter 38 share: the reference's FewExpr walked; boxed arguments.
-/
import Derived.Test.YtlgfickhkejdjaaGreatDoorMSyAws
import Derived.Test.YtlgfickhkejdjaaGreatDoorMSyFew
namespace Go.Proofs.YtlgfickhkejdjaaGreatDoor
open Go.RowKit Go.Maps

theorem decide_int (a b : Int) : decide (a ≤ b) = decide (b ≥ a) := rfl
set_option maxRecDepth 100000 in
set_option maxHeartbeats 1000000 in
theorem fewExpr_any (e : Tr.E) (a : Value) (n : Int) (w : World) (hbd : BdE e) (hS : SlE w a e.args) (h0 : 0 ≤ n) (hn : n ≤ 1000000) :
    Calls Tryz.prog 12 #[exprV e a, .int .i64 n] w fun r w' => r = .returned (.bool (Tr.fewE e n)) ∧ Below w.heap.size w w' := by
  have hbx := below_box w (.cells #[.int .i64 e.kind, .int .i64 e.op, .int .i64 e.int, .string e.name, .bool e.at_, a] 24)
  have K := leftExpr_any e.deep e a n _ (Nat.le_refl _) hbd (hS.keep hbx) h0 hn
  have HK := Lib.hid K
  have HB := Lib.hid hbx
  have hfin : Tr.fewE e n = decide (0 ≤ Tr.leftE e n) := rfl
  obtain ⟨m, hm⟩ : ∃ q, Tr.leftE e n = q := ⟨_, rfl⟩
  rw [hm] at hfin HK
  rw [hfin]
  clear hbd hS K hbx hfin hm
  unfold exprV at HK ⊢
  go_enter Tryz.func12, Tryz.ntmps12
  go_wp2_with fail
  refine HK.out.mono ?_
  rintro r w2 ⟨rfl, hb2⟩
  have HB2 := Lib.hid (below_next HB.out hb2)
  clear hb2
  go_wp2_with fail
  go_ret
  exact ⟨rfl, HB2.out⟩
/-- one boxed argument -/
theorem box1_of (w : World) (A : Array Value) (tA : TypeId) : Below w.heap.size w (w.alloc (.cells A tA)) ∧ ∀ W, Below (w.alloc (.cells A tA)).heap.size (w.alloc (.cells A tA)) W → ∀ (j : Nat) (u : Value), A[j]? = some u → W.cell? ⟨w.heap.size, j, none⟩ = some u :=
  ⟨below_box _ _, fun _ hb j u hu => cell_keep' hb (box_cell w A tA j u hu)⟩
/-- two boxed arguments -/
theorem box2_of (w : World) (A B : Array Value) (tA tB : TypeId) : Below w.heap.size w ((w.alloc (.cells A tA)).alloc (.cells B tB)) ∧ ∀ W, Below ((w.alloc (.cells A tA)).alloc (.cells B tB)).heap.size ((w.alloc (.cells A tA)).alloc (.cells B tB)) W →
    (∀ (j : Nat) (u : Value), A[j]? = some u → W.cell? ⟨w.heap.size, j, none⟩ = some u) ∧ (∀ (j : Nat) (u : Value), B[j]? = some u → W.cell? ⟨w.heap.size + 1, j, none⟩ = some u) := by
  have h2 := below_box (w.alloc (.cells A tA)) (.cells B tB)
  refine ⟨below_next (below_box _ _) h2, fun W hb => ⟨fun j u hu => cell_keep' hb (cell_keep' h2 (box_cell w A tA j u hu)), fun j u hu => ?_⟩⟩
  have h5 := box_cell (w.alloc (.cells A tA)) B tB j u hu
  rw [World.size_alloc] at h5
  exact cell_keep' hb h5
end Go.Proofs.YtlgfickhkejdjaaGreatDoor
