/-
  Identities: slices.Grow of nil, walked: a row of no elements with room for m.
-/
import Derived.Test.YtlhkkniebaganaaGreatDoorIdSetE
namespace Go.Proofs.YtlhkkniebaganaaGreatDoor
open Go.RowKit

theorem run_append_made (ty : TypeId) (w : World) (m : Nat) (h0 : 0 < m) (hm : m ≤ 1000) :
    ∃ cap cells, (Builtin.append_ #[22, 3] ty #[.slice none 0 0, .int .i64 m]).run Tryz.prog w = .ok (.slice (some ⟨w.heap.size, 0, none⟩) m cap) (w.drew.alloc (.cells cells 24)) ∧ m ≤ cap ∧ cap ≤ maxLen ∧ cells.size = cap * 2 := by
  obtain ⟨i0, hi, hz0, hz1, hz2⟩ := info_parts idInfo
  have hge := grownCap_ge w m 0 24
  have hcm := grownCap_le_maxLen w m 0 24 (by unfold maxLen; omega)
  have hn : m ≠ 0 := by omega
  have h63' : ¬ (9223372036854775807 < (m : Int)) := by omega
  have hw : IntKind.i64.wrap (m : Int) = (m : Int) := IntWalk.i64_in _ (by omega)
  have hneg : ¬ ((m : Int) < 0) := by omega
  have hbig : ¬ (281474976710656 < (m : Int) * 16) := by omega
  have h48' : ¬ (281474976710656 < Builtin.nextslicecap m 0 * 16) := by rw [nextslicecap_zero h0]; omega
  refine ⟨grownCap w m 0 24, Builtin.zeroCells #[.int .i64 0, .int .i64 0] m ++ Builtin.zeroCells #[.int .i64 0, .int .i64 0] (grownCap w m 0 24 - m), ?_, hge, hcm, ?_⟩
  · simp [Builtin.append_, run_underlying Tryz.underlying22, run_underlying Tryz.underlying3, sizeOf, typeInfo, zeroValue, hi, hz0, hz1, hz2, Builtin.lenOf, hn, hw, hneg, hbig, h63', h48', Question.forced, run_firstCells_none, newRow, grownCap, asInt, asIntOf, Value.cells]
    intro h; omega
  · simp [Builtin.zeroCells]; omega
theorem wpList_append_made {w : World} {ops : Array Oper} {rest : List Oper} {o : Oper} {a : Act} {Q : Exit → Act → World → Prop} (hgd : o.guard = none) (s x : Operand) (m : Nat) (h0 : 0 < m) (hm : m ≤ 1000)
    (ho : o.op = .call { callee := .builtin .append, args := #[s, x], argTypes := #[22, 3] })
    (hs : a.eval s = .slice none 0 0) (hx : a.eval x = .int .i64 m)
    (h : ∀ cap cells, m ≤ cap → cap ≤ maxLen → cells.size = cap * 2 → wpList Tryz.prog ops Q rest (a.put o.dst (.slice (some ⟨w.heap.size, 0, none⟩) m cap)) (w.drew.alloc (.cells cells 24))) : wpList Tryz.prog ops Q (o :: rest) a w :=
  wpList_plain hgd fun _ hK => by
    obtain ⟨cap, cells, hr, h1, h2, h3⟩ := run_append_made o.type w m h0 hm
    unfold Oper.wp execOp
    simp only [ho, resolve, invoke, builtin, Sem.run_bind, Sem.run_pure, Result.andThen_ok, List.map_toArray, List.map_cons, List.map_nil, hs, hx, hr]
    exact hK _ _ (h cap cells h1 h2 h3)
set_option maxRecDepth 100000 in
set_option maxHeartbeats 1000000 in
theorem grow_any (m : Nat) (w : World) (hm : m ≤ 1000) :
    Calls Tryz.prog 38 #[.slice none 0 0, .int .i64 m] w fun e w' => ∃ v', e = .returned v' ∧ Own w' w.heap.size v' [] ∧ Below w.heap.size w w' := by
  by_cases h0 : 0 < m
  · go_enter Tryz.func38, Tryz.ntmps38
    go_wp2_with (at_builtin; refine wpList_append_made rfl _ _ m h0 hm rfl rfl rfl ?_; intro cap cells hc1 hc2 hc3)
    go_ret
    exact ⟨_, rfl, World.ownsRow_made w.drew cells cap (Nat.le_refl _) hc2 hc3, (below_drew w).alloc (Nat.le_refl _) _⟩
  · obtain rfl : m = 0 := by omega
    go_enter Tryz.func38, Tryz.ntmps38
    go_wp2
    go_ret
    exact ⟨_, rfl, Own.nil _ _, Below.refl _ _⟩
end Go.Proofs.YtlhkkniebaganaaGreatDoor
