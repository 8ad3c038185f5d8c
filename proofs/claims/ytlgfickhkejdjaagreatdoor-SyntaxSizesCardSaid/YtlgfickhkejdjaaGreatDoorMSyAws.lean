/-
  Several texts in one: SyAwA, SyAw.
-/
import Derived.Test.YtlgfickhkejdjaaGreatDoorMSyJ
import Derived.Test.YtlgfickhkejdjaaGreatDoorMSyArg
import Derived.Laws.Rows
import Derived.Test.YtlgfickhkejdjaaGreatDoorMSyH
import Derived.Test.YtlgfickhkejdjaaGreatDoorMSyF
import Derived.Test.YtlgfickhkejdjaaGreatDoorMSyExpr
namespace Go.Proofs.YtlgfickhkejdjaaGreatDoor
open Go.RowKit Go.Maps

theorem new_at {w : World} {o : Obj} {n : Nat} (h : w.heap.size = n) : (w.alloc o).heap[n]? = some o := by subst h; exact (MapKept.heap_alloc w o).1
set_option maxRecDepth 100000 in
set_option maxHeartbeats 1000000 in
theorem lawVariable_any (s : ByteArray) (w : World) :
    Calls Tryz.prog 36 #[.string s] w fun e w' => e = .returned (.agg #[.int .i64 3, .int .i64 0, .int .i64 0, .string s, .bool false, .slice none 0 0]) ∧ w' = w.alloc (.cells #[.int .i64 3, .int .i64 0, .int .i64 0, .string s, .bool false, .slice none 0 0] 24) := by
  go_enter Tryz.func36, Tryz.ntmps36
  go_wp2
  exact bodyPost_ret (v := .agg #[.int .i64 3, .int .i64 0, .int .i64 0, .string s, .bool false, .slice none 0 0]) (results_cell_row Tryz.results36 _ _ w.heap.size _ _ _ _ rfl (new_at rfl) Tryz.underlying24 rfl (by kernel_rfl)) rfl ⟨rfl, rfl⟩
/-! ### a row of expressions in a block -/
def eCells (x : Tr.E × Value) : List Value := [.int .i64 x.1.kind, .int .i64 x.1.op, .int .i64 x.1.int, .string x.1.name, .bool x.1.at_, x.2]
theorem flat6 : ∀ (l : List (Tr.E × Value)) (j q : Nat) (x : Tr.E × Value), l[j]? = some x → q < 6 → (l.flatMap eCells)[j * 6 + q]? = (eCells x)[q]?
  | [], j, q, x, h, _ => by simp at h
  | y :: r, 0, q, x, h, hq => by
    cases h
    rw [List.flatMap_cons, Nat.zero_mul, Nat.zero_add, List.getElem?_append_left (by exact hq)]
  | y :: r, j + 1, q, x, h, hq => by
    have h2 := flat6 r j q x (by simpa using h) hq
    have h6 : (eCells y).length = 6 := rfl
    rw [List.flatMap_cons, List.getElem?_append_right (by rw [h6]; omega), h6, show (j + 1) * 6 + q - 6 = j * 6 + q by omega]
    exact h2
theorem slE_blk {w : World} {g : Nat} {cs : Array Value} {t : TypeId} (h : w.heap[g]? = some (.cells cs t (0, 0))) (l : List (Tr.E × Value)) (hl : l.length ≤ 1000) (hc : cs.toList = l.flatMap eCells) (hr : ∀ x ∈ l, BdE x.1 ∧ SlE w x.2 x.1.args) :
    SlE w (.slice (some ⟨g, 0, none⟩) l.length l.length) (l.map Prod.fst) := by
  have hlen : (l.map Prod.fst).length = l.length := List.length_map _
  have hget : ∀ j e, (l.map Prod.fst)[j]? = some e → ∃ x : Tr.E × Value, l[j]? = some x ∧ x.1 = e := fun j e hj => by
    rw [List.getElem?_map, Option.map_eq_some_iff] at hj
    exact hj
  have key := SlE.row (w := w) g 0 l.length (l.map Prod.fst) (fun j => (l[j]?.map Prod.snd).getD (.bool false)) (by rw [hlen]; exact Nat.le_refl _) (by unfold maxLen; omega) (fun j e hj => ?_) (fun j e hj => ?_)
  · rw [hlen] at key; exact key
  · obtain ⟨x, hx, rfl⟩ := hget j e hj
    have hat : ∀ q u, (eCells x)[q]? = some u → q < 6 → w.cell? ⟨g, j * 6 + q, none⟩ = some u := fun q u hu hq => cell_of_blkP h (by rw [← Array.getElem?_toList, hc, flat6 l j q x hx hq, hu])
    simp only [Nat.zero_add]
    have hv : ((l[j]?.map Prod.snd).getD (.bool false)) = x.2 := by rw [hx]; rfl
    rw [hv]
    exact ⟨⟨hat 0 _ rfl (by omega), hat 1 _ rfl (by omega), hat 2 _ rfl (by omega), hat 3 _ rfl (by omega), hat 4 _ rfl (by omega), hat 5 _ rfl (by omega)⟩, (hr x (List.mem_of_getElem? hx)).1⟩
  · obtain ⟨x, hx, rfl⟩ := hget j e hj
    have hv : ((l[j]?.map Prod.snd).getD (.bool false)) = x.2 := by rw [hx]; rfl
    rw [hv]
    exact (hr x (List.mem_of_getElem? hx)).2

set_option maxRecDepth 100000 in
set_option maxHeartbeats 1000000 in
theorem lawBinary_any (op : Int) (x y : Tr.E) (a b : Value) (w : World) (hx : BdE x) (hy : BdE y) (ha : SlE w a x.args) (hb : SlE w b y.args) :
    Calls Tryz.prog 30 #[.int .i64 op, exprV x a, exprV y b] w fun e w' => ∃ g, e = .returned (.agg #[.int .i64 10, .int .i64 op, .int .i64 0, .string ⟨#[]⟩, .bool false, .slice (some ⟨g, 0, none⟩) 2 2]) ∧ SlE w' (.slice (some ⟨g, 0, none⟩) 2 2) [x, y] ∧ Below w.heap.size w w' := by
  have HA := Lib.hid ha
  have HB := Lib.hid hb
  clear ha hb
  unfold exprV
  go_enter Tryz.func30, Tryz.ntmps30
  go_wp2
  have hb : Below w.heap.size w _ := ((((below_box w (.cells #[.int .i64 x.kind, .int .i64 x.op, .int .i64 x.int, .string x.name, .bool x.at_, a] 24)).alloc (by simp) (.cells #[.int .i64 y.kind, .int .i64 y.op, .int .i64 y.int, .string y.name, .bool y.at_, b] 24)).alloc (by simp <;> omega) (.cells #[.int .i64 10, .int .i64 op, .int .i64 0, .string ⟨#[]⟩, .bool false, .slice (some ⟨w.heap.size + 1 + 1 + 1, 0, none⟩) 2 2] 24)).alloc (by simp <;> omega) (.cells #[.int .i64 x.kind, .int .i64 x.op, .int .i64 x.int, .string x.name, .bool x.at_, a, .int .i64 y.kind, .int .i64 y.op, .int .i64 y.int, .string y.name, .bool y.at_, b] 24))
  have h3 : ((((w.alloc (.cells #[.int .i64 x.kind, .int .i64 x.op, .int .i64 x.int, .string x.name, .bool x.at_, a] 24)).alloc (.cells #[.int .i64 y.kind, .int .i64 y.op, .int .i64 y.int, .string y.name, .bool y.at_, b] 24)).alloc (.cells #[.int .i64 10, .int .i64 op, .int .i64 0, .string ⟨#[]⟩, .bool false, .slice (some ⟨w.heap.size + 1 + 1 + 1, 0, none⟩) 2 2] 24)).alloc (.cells #[.int .i64 x.kind, .int .i64 x.op, .int .i64 x.int, .string x.name, .bool x.at_, a, .int .i64 y.kind, .int .i64 y.op, .int .i64 y.int, .string y.name, .bool y.at_, b] 24)).heap[w.heap.size + 1 + 1]? = some (.cells #[.int .i64 10, .int .i64 op, .int .i64 0, .string ⟨#[]⟩, .bool false, .slice (some ⟨w.heap.size + 1 + 1 + 1, 0, none⟩) 2 2] 24 (0, 0)) := (Below.heap_alloc _ _ _ (by simp only [World.size_alloc]; omega)).trans (new_at (by simp))
  refine bodyPost_ret (v := .agg #[.int .i64 10, .int .i64 op, .int .i64 0, .string ⟨#[]⟩, .bool false, .slice (some ⟨w.heap.size + 1 + 1 + 1, 0, none⟩) 2 2]) (results_cell_row Tryz.results30 _ _ (w.heap.size + 1 + 1) _ _ _ _ rfl h3 Tryz.underlying24 rfl (by kernel_rfl)) rfl ⟨_, rfl, ?_, hb⟩
  · exact slE_blk (new_at (by simp)) [(x, a), (y, b)] (by simp) rfl (fun z hz => by
      simp only [List.mem_cons, List.not_mem_nil, or_false] at hz
      rcases hz with rfl | rfl
      · exact ⟨hx, HA.out.keep hb⟩
      · exact ⟨hy, HB.out.keep hb⟩)
end Go.Proofs.YtlgfickhkejdjaaGreatDoor

namespace Go.Proofs.YtlgfickhkejdjaaGreatDoor
open Go.RowKit Go.Maps

namespace Aw
open Tr
def eA : E := .mk 3 0 0 ⟨#[97]⟩ false []
def eB : E := .mk 3 0 0 ⟨#[98]⟩ false []
def eI : E := .mk 0 0 1 ⟨#[]⟩ false []
def eAdd : E := .mk 10 0 0 ⟨#[]⟩ false [eB, eI]
def eSub : E := .mk 10 1 0 ⟨#[]⟩ false [eA, eAdd]
def fN : E := .mk 0 0 2 ⟨#[]⟩ false []
def fNew : E := .mk 5 0 0 ⟨#[67]⟩ true [fN]
def fF : E := .mk 4 0 0 ⟨#[120]⟩ false [fNew]
def pC : C := ⟨⟨#[67]⟩, false, [⟨#[120]⟩], []⟩
def pCs : List C := [pC]
end Aw
instance decI64 (n : Int) : Decidable (Tr.I64 n) := by unfold Tr.I64; infer_instance
theorem bdE_small {e : Tr.E} (h1 : Tr.I64 e.kind) (h2 : Tr.I64 e.op) (h3 : Tr.I64 e.int) (h4 : e.name.size ≤ maxLen) : BdE e := ⟨h1, h2, h3, h4⟩

/-! ### the world of the examples -/
def awW (w : World) (N g2 : Nat) : World := (((((((w.alloc (.cells #[.int .i64 10, .int .i64 1, .int .i64 0, .string ⟨#[]⟩, .bool false, .slice (some ⟨g2, 0, none⟩) 2 2] 24)).alloc (.cells #[.int .i64 0, .int .i64 0, .int .i64 2, .string ⟨#[]⟩, .bool false, .slice none 0 0] 24)).alloc (.cells #[.int .i64 5, .int .i64 0, .int .i64 0, .string ⟨#[67]⟩, .bool true, .slice (some ⟨N + 1, 0, none⟩) 1 1] 24)).alloc (.cells #[.int .i64 4, .int .i64 0, .int .i64 0, .string ⟨#[120]⟩, .bool false, .slice (some ⟨N + 1 + 1, 0, none⟩) 1 1] 24)).alloc (.cells #[.string ⟨#[120]⟩] 9)).alloc (.cells #[.string ⟨#[67]⟩, .bool false, .slice (some ⟨N + 1 + 1 + 1 + 1, 0, none⟩) 1 1, .slice none 0 0] 52)).alloc (.cells #[.slice (some ⟨N + 1 + 1 + 1 + 1 + 1, 0, none⟩) 1 1] 32))
theorem awW_below (w : World) (N g2 : Nat) : Below w.heap.size w (awW w N g2) := by
  unfold awW
  repeat (first | exact Below.refl _ _ | refine Below.alloc ?_ (by simp <;> omega) _)
theorem awW_0 (w : World) (g2 : Nat) : (awW w w.heap.size g2).heap[w.heap.size]? = some (.cells #[.int .i64 10, .int .i64 1, .int .i64 0, .string ⟨#[]⟩, .bool false, .slice (some ⟨g2, 0, none⟩) 2 2] 24 (0, 0)) := by
  unfold awW
  repeat (refine (Below.heap_alloc _ _ _ (by simp only [World.size_alloc]; omega)).trans ?_)
  exact new_at (by simp)
theorem awW_1 (w : World) (g2 : Nat) : (awW w w.heap.size g2).heap[w.heap.size + 1]? = some (.cells #[.int .i64 0, .int .i64 0, .int .i64 2, .string ⟨#[]⟩, .bool false, .slice none 0 0] 24 (0, 0)) := by
  unfold awW
  repeat (refine (Below.heap_alloc _ _ _ (by simp only [World.size_alloc]; omega)).trans ?_)
  exact new_at (by simp)
theorem awW_2 (w : World) (g2 : Nat) : (awW w w.heap.size g2).heap[w.heap.size + 1 + 1]? = some (.cells #[.int .i64 5, .int .i64 0, .int .i64 0, .string ⟨#[67]⟩, .bool true, .slice (some ⟨w.heap.size + 1, 0, none⟩) 1 1] 24 (0, 0)) := by
  unfold awW
  repeat (refine (Below.heap_alloc _ _ _ (by simp only [World.size_alloc]; omega)).trans ?_)
  exact new_at (by simp)
theorem awW_3 (w : World) (g2 : Nat) : (awW w w.heap.size g2).heap[w.heap.size + 1 + 1 + 1]? = some (.cells #[.int .i64 4, .int .i64 0, .int .i64 0, .string ⟨#[120]⟩, .bool false, .slice (some ⟨w.heap.size + 1 + 1, 0, none⟩) 1 1] 24 (0, 0)) := by
  unfold awW
  repeat (refine (Below.heap_alloc _ _ _ (by simp only [World.size_alloc]; omega)).trans ?_)
  exact new_at (by simp)
theorem awW_4 (w : World) (g2 : Nat) : (awW w w.heap.size g2).heap[w.heap.size + 1 + 1 + 1 + 1]? = some (.cells #[.string ⟨#[120]⟩] 9 (0, 0)) := by
  unfold awW
  repeat (refine (Below.heap_alloc _ _ _ (by simp only [World.size_alloc]; omega)).trans ?_)
  exact new_at (by simp)
theorem awW_5 (w : World) (g2 : Nat) : (awW w w.heap.size g2).heap[w.heap.size + 1 + 1 + 1 + 1 + 1]? = some (.cells #[.string ⟨#[67]⟩, .bool false, .slice (some ⟨w.heap.size + 1 + 1 + 1 + 1, 0, none⟩) 1 1, .slice none 0 0] 52 (0, 0)) := by
  unfold awW
  repeat (refine (Below.heap_alloc _ _ _ (by simp only [World.size_alloc]; omega)).trans ?_)
  exact new_at (by simp)
theorem awW_6 (w : World) (g2 : Nat) : (awW w w.heap.size g2).heap[w.heap.size + 1 + 1 + 1 + 1 + 1 + 1]? = some (.cells #[.slice (some ⟨w.heap.size + 1 + 1 + 1 + 1 + 1, 0, none⟩) 1 1] 32 (0, 0)) := by
  unfold awW
  repeat (refine (Below.heap_alloc _ _ _ (by simp only [World.size_alloc]; omega)).trans ?_)
  exact new_at (by simp)
theorem bd_fNew : BdE Aw.fNew := bdE_small (by decide) (by decide) (by decide) (by decide)
theorem bd_fN : BdE Aw.fN := bdE_small (by decide) (by decide) (by decide) (by decide)
theorem aw_fNew (w : World) (g2 : Nat) : SlE (awW w w.heap.size g2) (.slice (some ⟨w.heap.size + 1 + 1, 0, none⟩) 1 1) [Aw.fNew] :=
  slE_blk (awW_2 w g2) [(Aw.fNew, .slice (some ⟨w.heap.size + 1, 0, none⟩) 1 1)] (by simp) rfl (fun z hz => by
    obtain rfl := List.mem_singleton.1 hz
    exact ⟨bd_fNew, slE_blk (awW_1 w g2) [(Aw.fN, .slice none 0 0)] (by simp) rfl (fun z hz => by
      obtain rfl := List.mem_singleton.1 hz
      exact ⟨bd_fN, .nil _ _⟩)⟩)
theorem aw_prog (w : World) (g2 : Nat) : SlC (awW w w.heap.size g2) (.slice (some ⟨w.heap.size + 1 + 1 + 1 + 1 + 1, 0, none⟩) 1 1) Aw.pCs := by
  have h5 := awW_5 w g2
  have h4 := awW_4 w g2
  refine ⟨_, 1, rfl, show 1 ≤ maxLen by decide, fun _ => ⟨Nat.le_refl _, by decide⟩, fun j c hj => ?_⟩
  match j, hj with
  | 0, hj =>
    cases hj
    refine ⟨by decide, _, 0, .slice (some ⟨w.heap.size + 1 + 1 + 1 + 1, 0, none⟩) 1 1, .slice none 0 0, rfl, lt_of_block h5, ⟨cell_of_blkP h5 rfl, cell_of_blkP h5 rfl, cell_of_blkP h5 rfl, cell_of_blkP h5 rfl⟩, ⟨_, 1, rfl, show 1 ≤ maxLen by decide, fun _ => ⟨Nat.le_refl _, by decide⟩, fun j s hj => ?_⟩, ⟨_, _, rfl, Nat.zero_le _, fun h => absurd rfl h, fun j n hj => by simp [Aw.pC] at hj⟩⟩
    match j, hj with
    | 0, hj => cases hj; exact ⟨by decide, _, 0, rfl, lt_of_block h4, cell_of_blkP h4 rfl⟩
    | j + 1, hj => simp [Aw.pC] at hj
  | j + 1, hj => simp [Aw.pCs] at hj
theorem aw_t1 : Sy.exprText Aw.eSub = [97, 32, 45, 32, 40, 98, 32, 43, 32, 49, 41] := by decide +kernel
theorem aw_t2 : Sy.exprText Aw.fF = [40, 110, 101, 119, 32, 67, 40, 41, 32, 97, 116, 32, 50, 41, 46, 120] := by decide +kernel
theorem aw_t3 : Sy.programText Aw.pCs = [114, 101, 99, 111, 114, 100, 32, 67, 32, 123, 10, 32, 32, 118, 97, 114, 32, 120, 59, 10, 125, 10] := by decide +kernel
theorem aw_l1 : (Sy.text Aw.eSub).length ≤ 1000 := by decide +kernel
theorem aw_l2 : (Sy.text Aw.fF).length ≤ 1000 := by decide +kernel
theorem aw_l3 : (Sy.progT Aw.pCs).length ≤ 1000 := by decide +kernel
theorem aw_v1 : Tr.validE Aw.eSub = true := by decide +kernel
theorem aw_v3 : Tr.validP Aw.pCs = true := by decide +kernel
theorem aw_z3 : Sy.sizeP Aw.pCs = 2 := by decide +kernel
theorem aw_q3 : Sy.sameCs Aw.pCs Aw.pCs = true := (Sy.sameCs_iff _ _).2 rfl
theorem aw_fit : Tr.fitP Aw.pCs := fun c hc => by
  obtain rfl := List.mem_singleton.1 hc
  intro m hm
  cases hm
theorem aw_deep : ∀ c ∈ Aw.pCs, ∀ m ∈ c.methods, Tr.S.deep.deeps m.body ≤ 900000 ∧ m.params.length ≤ 1000000 := fun c hc => by
  obtain rfl := List.mem_singleton.1 hc
  intro m hm
  cases hm

set_option maxRecDepth 100000 in
set_option maxHeartbeats 4000000 in
theorem awake38_any (w : World) (hE : SyEnv w) : Calls Tryz.prog 11 #[] w fun e w' => e = .returned (.bool true) ∧ Below w.heap.size w w' := by
  have HE := Lib.hid hE
  have KB1 : Hid (∀ W, Calls Tryz.prog 30 #[.int .i64 0, .agg #[.int .i64 3, .int .i64 0, .int .i64 0, .string ⟨#[98]⟩, .bool false, .slice none 0 0], .agg #[.int .i64 0, .int .i64 0, .int .i64 1, .string ⟨#[]⟩, .bool false, .slice none 0 0]] W fun e w' => ∃ g, e = .returned (.agg #[.int .i64 10, .int .i64 0, .int .i64 0, .string ⟨#[]⟩, .bool false, .slice (some ⟨g, 0, none⟩) 2 2]) ∧ SlE w' (.slice (some ⟨g, 0, none⟩) 2 2) [Aw.eB, Aw.eI] ∧ Below W.heap.size W w') :=
    fun W => lawBinary_any 0 Aw.eB Aw.eI (.slice none 0 0) (.slice none 0 0) W (bdE_small (by decide) (by decide) (by decide) (by decide)) (bdE_small (by decide) (by decide) (by decide) (by decide)) (.nil _ _) (.nil _ _)
  have KB2 : Hid (∀ W g, SlE W (.slice (some ⟨g, 0, none⟩) 2 2) [Aw.eB, Aw.eI] → Calls Tryz.prog 30 #[.int .i64 1, .agg #[.int .i64 3, .int .i64 0, .int .i64 0, .string ⟨#[97]⟩, .bool false, .slice none 0 0], .agg #[.int .i64 10, .int .i64 0, .int .i64 0, .string ⟨#[]⟩, .bool false, .slice (some ⟨g, 0, none⟩) 2 2]] W fun e w' => ∃ g, e = .returned (.agg #[.int .i64 10, .int .i64 1, .int .i64 0, .string ⟨#[]⟩, .bool false, .slice (some ⟨g, 0, none⟩) 2 2]) ∧ SlE w' (.slice (some ⟨g, 0, none⟩) 2 2) [Aw.eA, Aw.eAdd] ∧ Below W.heap.size W w') :=
    fun W g h => lawBinary_any 1 Aw.eA Aw.eAdd (.slice none 0 0) (.slice (some ⟨g, 0, none⟩) 2 2) W (bdE_small (by decide) (by decide) (by decide) (by decide)) (bdE_small (by decide) (by decide) (by decide) (by decide)) (.nil _ _) h
  clear hE
  go_enter Tryz.func11, Tryz.ntmps11
  go_wp2_with fail
  refine (lawVariable_any _ _).mono ?_
  rintro e w1 ⟨rfl, hw1⟩
  have hb1 : Below w.heap.size w w1 := by rw [hw1]; exact below_box _ _
  have HB1 := Lib.hid hb1
  clear hw1 hb1
  go_wp2_with fail
  refine (lawVariable_any _ _).mono ?_
  rintro e w2 ⟨rfl, hw2⟩
  have hb2 : Below w1.heap.size w1 w2 := by rw [hw2]; exact below_box _ _
  have HB2 := Lib.hid (below_next HB1.out hb2)
  clear hw2 hb2
  go_wp2_with fail
  refine (KB1.out _).mono ?_
  rintro e w3 ⟨g1, rfl, hs3, hb3⟩
  have HB3 := Lib.hid (below_next HB2.out hb3)
  have KB3 := Lib.hid (KB2.out _ _ hs3)
  clear hs3 hb3
  go_wp2_with fail
  refine KB3.out.mono ?_
  rintro e w4 ⟨g2, rfl, hs4, hb4⟩
  have HB4 := Lib.hid (below_next HB3.out hb4)
  have HS4 := Lib.hid hs4
  clear hs4 hb4
  go_upto_region 4 with fail
  have hbz := awW_below w4 w4.heap.size g2
  have z0 := awW_0 w4 g2
  have z3 := awW_3 w4 g2
  have z6 := awW_6 w4 g2
  have hsn := aw_fNew w4 g2
  have hsp := aw_prog w4 g2
  obtain ⟨wz, hwz⟩ : ∃ q, q = awW w4 w4.heap.size g2 := ⟨_, rfl⟩
  obtain ⟨BX, hBX⟩ : ∃ q, w4.heap.size = q := ⟨_, rfl⟩
  rw [← hwz] at hbz z0 z3 z6 hsn hsp
  have hwz2 := hwz
  unfold awW at hwz2
  rw [← hwz2]
  rw [hBX] at z0 z3 z6 hsn hsp ⊢
  have hss := HS4.out.keep hbz
  have HBZ := Lib.hid (below_next HB4.out hbz)
  have hez : SyEnv wz := HE.out.keep HBZ.out
  have K1 : Hid (∀ W, Below wz.heap.size wz W → Calls Tryz.prog 15 #[.agg #[.int .i64 10, .int .i64 1, .int .i64 0, .string ⟨#[]⟩, .bool false, .slice (some ⟨g2, 0, none⟩) 2 2]] W fun r w' => r = .returned (.string ⟨#[97, 32, 45, 32, 40, 98, 32, 43, 32, 49, 41]⟩) ∧ Below W.heap.size W w') := fun W hb => by have h := syExpr_any Aw.eSub (.slice (some ⟨g2, 0, none⟩) 2 2) W (hez.keep hb) (bdE_small (by decide) (by decide) (by decide) (by decide)) (hss.keep hb) (Nat.le_trans aw_l1 (by decide)); rw [aw_t1] at h; exact h
  have K2 : Hid (∀ W, Below wz.heap.size wz W → Calls Tryz.prog 15 #[.agg #[.int .i64 4, .int .i64 0, .int .i64 0, .string ⟨#[120]⟩, .bool false, .slice (some ⟨BX + 1 + 1, 0, none⟩) 1 1]] W fun r w' => r = .returned (.string ⟨#[40, 110, 101, 119, 32, 67, 40, 41, 32, 97, 116, 32, 50, 41, 46, 120]⟩) ∧ Below W.heap.size W w') := fun W hb => by have h := syExpr_any Aw.fF (.slice (some ⟨BX + 1 + 1, 0, none⟩) 1 1) W (hez.keep hb) (bdE_small (by decide) (by decide) (by decide) (by decide)) (hsn.keep hb) (Nat.le_trans aw_l2 (by decide)); rw [aw_t2] at h; exact h
  have K3 : Hid (∀ W, Below wz.heap.size wz W → Calls Tryz.prog 22 #[.agg #[.slice (some ⟨BX + 1 + 1 + 1 + 1 + 1, 0, none⟩) 1 1]] W fun r w' => r = .returned (.string ⟨#[114, 101, 99, 111, 114, 100, 32, 67, 32, 123, 10, 32, 32, 118, 97, 114, 32, 120, 59, 10, 125, 10]⟩) ∧ Below W.heap.size W w') := fun W hb => by have h := program_any _ Aw.pCs W (hez.keep hb) aw_fit (hsp.keep hb) aw_deep (Nat.le_trans aw_l3 (by decide)); rw [aw_t3] at h; exact h
  have K4 : Hid (∀ W, Below wz.heap.size wz W → Calls Tryz.prog 24 #[.agg #[.slice (some ⟨BX + 1 + 1 + 1 + 1 + 1, 0, none⟩) 1 1]] W fun r w' => r = .returned (.int .i64 2) ∧ Below W.heap.size W w') := fun W hb => by have h := size_any _ Aw.pCs W (hsp.keep hb) (by rw [aw_z3]; decide); rw [aw_z3] at h; exact h
  have K5 : Hid (∀ W, Below wz.heap.size wz W → Calls Tryz.prog 20 #[.agg #[.slice (some ⟨BX + 1 + 1 + 1 + 1 + 1, 0, none⟩) 1 1]] W fun r w' => r = .returned (.bool true) ∧ Below W.heap.size W w') := fun W hb => by have h := valid_any _ Aw.pCs W (hez.syn.keep hb) aw_fit (hsp.keep hb); rw [aw_v3] at h; exact h
  have K6 : Hid (∀ W, Below wz.heap.size wz W → Calls Tryz.prog 13 #[.agg #[.int .i64 10, .int .i64 1, .int .i64 0, .string ⟨#[]⟩, .bool false, .slice (some ⟨g2, 0, none⟩) 2 2]] W fun r w' => r = .returned (.bool true) ∧ Below W.heap.size W w') := fun W hb => by have h := validExpr_any _ Aw.eSub (.slice (some ⟨g2, 0, none⟩) 2 2) W (Nat.le_refl _) (hez.syn.lex.keep hb) (bdE_small (by decide) (by decide) (by decide) (by decide)) (hss.keep hb); rw [aw_v1] at h; exact h
  have K7 : Hid (∀ W, Below wz.heap.size wz W → Calls Tryz.prog 26 #[.agg #[.slice (some ⟨BX + 1 + 1 + 1 + 1 + 1, 0, none⟩) 1 1], .agg #[.slice (some ⟨BX + 1 + 1 + 1 + 1 + 1, 0, none⟩) 1 1]] W fun r w' => r = .returned (.bool true) ∧ Below W.heap.size W w') := fun W hb => by have h := equal_any Aw.pCs Aw.pCs _ _ W (hsp.keep hb) (hsp.keep hb); rw [aw_q3] at h; exact h
  have HZ0 : Hid (∀ W, Below wz.heap.size wz W → W.heap[BX]? = some (.cells #[.int .i64 10, .int .i64 1, .int .i64 0, .string ⟨#[]⟩, .bool false, .slice (some ⟨g2, 0, none⟩) 2 2] 24 (0, 0))) := fun W hb => (hb.block _ (lt_of_block z0)).trans z0
  have HZ6 : Hid (∀ W, Below wz.heap.size wz W → W.heap[BX + 1 + 1 + 1 + 1 + 1 + 1]? = some (.cells #[.slice (some ⟨BX + 1 + 1 + 1 + 1 + 1, 0, none⟩) 1 1] 32 (0, 0))) := fun W hb => (hb.block _ (lt_of_block z6)).trans z6
  have HZ3 : Hid (∀ W, Below wz.heap.size wz W → W.heap[BX + 1 + 1 + 1]? = some (.cells #[.int .i64 4, .int .i64 0, .int .i64 0, .string ⟨#[120]⟩, .bool false, .slice (some ⟨BX + 1 + 1, 0, none⟩) 1 1] 24 (0, 0))) := fun W hb => (hb.block _ (lt_of_block z3)).trans z3
  have HR := Lib.hid (Below.refl wz.heap.size wz)
  clear hbz z0 z3 z6 hsn hsp hwz hwz2 hBX hss hez
  have c0 := cell_of_blkP (HZ0.out _ HR.out) (j := 0) (u := .int .i64 10) rfl
  have c1 := cell_of_blkP (HZ0.out _ HR.out) (j := 1) (u := .int .i64 1) rfl
  have c2 := cell_of_blkP (HZ0.out _ HR.out) (j := 2) (u := .int .i64 0) rfl
  have c3 := cell_of_blkP (HZ0.out _ HR.out) (j := 3) (u := .string ⟨#[]⟩) rfl
  have c4 := cell_of_blkP (HZ0.out _ HR.out) (j := 4) (u := .bool false) rfl
  have c5 := cell_of_blkP (HZ0.out _ HR.out) (j := 5) (u := .slice (some ⟨g2, 0, none⟩) 2 2) rfl
  go_wp2_with fail
  refine (K1.out _ HR.out).mono ?_
  rintro e wy ⟨rfl, hby⟩
  have HR := Lib.hid (below_next HR.out hby)
  clear hby c0 c1 c2 c3 c4 c5
  have c0 := cell_of_blkP (HZ3.out _ HR.out) (j := 0) (u := .int .i64 4) rfl
  have c1 := cell_of_blkP (HZ3.out _ HR.out) (j := 1) (u := .int .i64 0) rfl
  have c2 := cell_of_blkP (HZ3.out _ HR.out) (j := 2) (u := .int .i64 0) rfl
  have c3 := cell_of_blkP (HZ3.out _ HR.out) (j := 3) (u := .string ⟨#[120]⟩) rfl
  have c4 := cell_of_blkP (HZ3.out _ HR.out) (j := 4) (u := .bool false) rfl
  have c5 := cell_of_blkP (HZ3.out _ HR.out) (j := 5) (u := .slice (some ⟨BX + 1 + 1, 0, none⟩) 1 1) rfl
  go_wp2_with fail
  refine (K2.out _ HR.out).mono ?_
  rintro e wy ⟨rfl, hby⟩
  have HR := Lib.hid (below_next HR.out hby)
  clear hby c0 c1 c2 c3 c4 c5
  have c0 := cell_of_blkP (HZ6.out _ HR.out) (j := 0) (u := .slice (some ⟨BX + 1 + 1 + 1 + 1 + 1, 0, none⟩) 1 1) rfl
  go_wp2_with fail
  refine (K3.out _ HR.out).mono ?_
  rintro e wy ⟨rfl, hby⟩
  have HR := Lib.hid (below_next HR.out hby)
  clear hby c0
  have c0 := cell_of_blkP (HZ6.out _ HR.out) (j := 0) (u := .slice (some ⟨BX + 1 + 1 + 1 + 1 + 1, 0, none⟩) 1 1) rfl
  go_wp2_with fail
  refine (K4.out _ HR.out).mono ?_
  rintro e wy ⟨rfl, hby⟩
  have HR := Lib.hid (below_next HR.out hby)
  clear hby c0
  have c0 := cell_of_blkP (HZ6.out _ HR.out) (j := 0) (u := .slice (some ⟨BX + 1 + 1 + 1 + 1 + 1, 0, none⟩) 1 1) rfl
  go_wp2_with fail
  refine (K5.out _ HR.out).mono ?_
  rintro e wy ⟨rfl, hby⟩
  have HR := Lib.hid (below_next HR.out hby)
  clear hby c0
  have c0 := cell_of_blkP (HZ0.out _ HR.out) (j := 0) (u := .int .i64 10) rfl
  have c1 := cell_of_blkP (HZ0.out _ HR.out) (j := 1) (u := .int .i64 1) rfl
  have c2 := cell_of_blkP (HZ0.out _ HR.out) (j := 2) (u := .int .i64 0) rfl
  have c3 := cell_of_blkP (HZ0.out _ HR.out) (j := 3) (u := .string ⟨#[]⟩) rfl
  have c4 := cell_of_blkP (HZ0.out _ HR.out) (j := 4) (u := .bool false) rfl
  have c5 := cell_of_blkP (HZ0.out _ HR.out) (j := 5) (u := .slice (some ⟨g2, 0, none⟩) 2 2) rfl
  go_wp2_with fail
  refine (K6.out _ HR.out).mono ?_
  rintro e wy ⟨rfl, hby⟩
  have HR := Lib.hid (below_next HR.out hby)
  clear hby c0 c1 c2 c3 c4 c5
  have c0 := cell_of_blkP (HZ6.out _ HR.out) (j := 0) (u := .slice (some ⟨BX + 1 + 1 + 1 + 1 + 1, 0, none⟩) 1 1) rfl
  go_wp2_with fail
  refine (K7.out _ HR.out).mono ?_
  rintro e wy ⟨rfl, hby⟩
  have HR := Lib.hid (below_next HR.out hby)
  clear hby c0
  go_wp2_with fail
  go_ret
  exact ⟨rfl, below_next HBZ.out HR.out⟩
end Go.Proofs.YtlgfickhkejdjaaGreatDoor
