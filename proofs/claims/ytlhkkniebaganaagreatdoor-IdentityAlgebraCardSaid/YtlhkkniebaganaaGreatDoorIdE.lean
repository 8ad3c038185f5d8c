/-
  Identities: slices.Compact at them, walked.
-/
import Derived.Test.YtlhkkniebaganaaGreatDoorIdD
import Derived.Laws.IdiomCopy
import Derived.Lib.SliceRun
import Derived.IntWalk
namespace Go.Proofs.YtlhkkniebaganaaGreatDoor
open Go.RowKit

/-- the first n elements of block g, as a function; they may be written -/
def RowAt (w : World) (g n : Nat) (f : Nat → Id.I) : Prop :=
  ∀ j, j < n → w.cell? ⟨g, j * 2, none⟩ = some (.int .i64 (f j).1) ∧ w.cell? ⟨g, j * 2 + 1, none⟩ = some (.int .i64 (f j).2) ∧ w.frozen? ⟨g, j * 2, none⟩ = false ∧ w.frozen? ⟨g, j * 2 + 1, none⟩ = false

theorem uniq_snoc (y : Id.I) : ∀ (l : List Id.I) (x : Id.I), Id.uniq (l ++ [x] ++ [y]) = if x = y then Id.uniq (l ++ [x]) else Id.uniq (l ++ [x]) ++ [y]
  | [], x => by
    show Id.uniq [x, y] = _
    unfold Id.uniq
    split
    · rename_i h; subst h; rfl
    · rfl
  | [a], x => by
    show Id.uniq (a :: x :: [y]) = if x = y then Id.uniq (a :: x :: []) else Id.uniq (a :: x :: []) ++ [y]
    by_cases h1 : a = x <;> by_cases h2 : x = y <;> simp [Id.uniq, h1, h2]
  | a :: b :: l, x => by
    have ih := uniq_snoc y (b :: l) x
    show Id.uniq (a :: b :: (l ++ [x] ++ [y])) = if x = y then Id.uniq (a :: b :: (l ++ [x])) else Id.uniq (a :: b :: (l ++ [x])) ++ [y]
    rw [Id.uniq, Id.uniq]
    simp only [List.cons_append] at ih
    rw [ih]
    by_cases h1 : a = b <;> by_cases h2 : x = y <;> simp [h1, h2]
theorem uniq_diff : ∀ {l : List Id.I}, (∀ j, j + 1 < l.length → l[j + 1]? ≠ l[j]?) → Id.uniq l = l
  | [], _ => rfl
  | [a], _ => rfl
  | a :: b :: r, h => by
    have h0 := h 0 (by simp)
    have ih := uniq_diff (l := b :: r) fun j hj => by
      have := h (j + 1) (by simpa using hj)
      simpa using this
    unfold Id.uniq
    rw [if_neg (fun e => h0 (by simp [e])), ih]

theorem zeroCells_id (n : Nat) : (Builtin.zeroCells #[.int .i64 0, .int .i64 0] n).toList = List.replicate (n * 2) (.int .i64 0) := by
  apply List.ext_getElem
  · simp [Builtin.zeroCells]
  · intro i h1 h2
    simp only [Builtin.zeroCells, Array.toList_map, Array.toList_range, List.getElem_map, List.getElem_range, List.getElem_replicate]
    show (#[Value.int .i64 0, .int .i64 0])[i % 2]! = _
    rcases Nat.mod_two_eq_zero_or_one i with h | h <;> rw [h] <;> rfl
theorem clear_id (w : World) (ty : TypeId) (b o n c : Nat) (hn : 0 < n) (hc : ∀ j, j < n * 2 → (w.cell? ⟨b, o + j, none⟩).isSome = true) (hf : ∀ j, j < n * 2 → w.frozen? ⟨b, o + j, none⟩ = false) :
    (Builtin.clear_ #[22] ty #[.slice (some ⟨b, o, none⟩) n c]).run Tryz.prog w = .ok (.tuple #[]) (w.setCells b o (List.replicate (n * 2) (.int .i64 0))) := by
  have hst := run_storeCells_cells (P := Tryz.prog) b o (List.replicate (n * 2) (.int .i64 0)) 0 w (by simpa using hc) (by simpa using hf) (by intro v hv'; rw [List.eq_of_mem_replicate hv']; rfl)
  simp only [Nat.add_zero] at hst
  obtain ⟨m, rfl⟩ : ∃ m, n = m + 1 := ⟨n - 1, by omega⟩
  have hz := zeroCells_id (m + 1)
  simp [Builtin.clear_, run_underlying Tryz.underlying22, Value.cells, hz, hst]

set_option maxHeartbeats 400000 in
theorem compact_short (p : Option Addr) (n c : Nat) (w : World) (hn : n < 2) : Calls Tryz.prog 22 #[.slice p n c] w fun e w' => e = .returned (.slice p n c) ∧ w = w' := by
  go_enter Tryz.func22, Tryz.ntmps22
  go_wp2
  go_ret
  exact ⟨rfl, rfl⟩

/-- the list that a function gives -/
def listOf (f : Nat → Id.I) (n : Nat) : List Id.I := (List.range n).map f
theorem listOf_get (f : Nat → Id.I) {n j : Nat} (h : j < n) : (listOf f n)[j]? = some (f j) := by unfold listOf; rw [List.getElem?_map, List.getElem?_range h]; rfl
theorem listOf_len (f : Nat → Id.I) (n : Nat) : (listOf f n).length = n := by simp [listOf]
theorem listOf_succ (f : Nat → Id.I) (n : Nat) : listOf f (n + 1) = listOf f n ++ [f n] := by simp [listOf, List.range_succ]

theorem id_eql_t (w : World) (a : Id.I) : (binOp .eql 24 (.agg #[.int .i64 a.1, .int .i64 a.2]) (.agg #[.int .i64 a.1, .int .i64 a.2])).run Tryz.prog w = .ok (.bool true) w := by rw [id_eql]; simp
theorem id_eql_f (w : World) {a b : Id.I} (h : a ≠ b) : (binOp .eql 24 (.agg #[.int .i64 a.1, .int .i64 a.2]) (.agg #[.int .i64 b.1, .int .i64 b.2])).run Tryz.prog w = .ok (.bool false) w := by
  rw [id_eql]
  have : (a.1 == b.1 && a.2 == b.2) = false := by
    rw [Bool.eq_false_iff]
    intro e
    simp only [Bool.and_eq_true, beq_iff_eq] at e
    exact h (Prod.ext e.1 e.2)
  rw [this]
theorem id_neq_t (w : World) (a : Id.I) : (binOp .neq 24 (.agg #[.int .i64 a.1, .int .i64 a.2]) (.agg #[.int .i64 a.1, .int .i64 a.2])).run Tryz.prog w = .ok (.bool false) w := by rw [id_neq]; simp
theorem id_neq_f (w : World) {a b : Id.I} (h : a ≠ b) : (binOp .neq 24 (.agg #[.int .i64 a.1, .int .i64 a.2]) (.agg #[.int .i64 b.1, .int .i64 b.2])).run Tryz.prog w = .ok (.bool true) w := by
  rw [id_neq]
  have : (a.1 == b.1 && a.2 == b.2) = false := by
    rw [Bool.eq_false_iff]
    intro e
    simp only [Bool.and_eq_true, beq_iff_eq] at e
    exact h (Prod.ext e.1 e.2)
  rw [this]; rfl

/-- f with a at k -/
def upd (f : Nat → Id.I) (k : Nat) (a : Id.I) (j : Nat) : Id.I := if j = k then a else f j
theorem cell_other {w : World} {g o1 o2 : Nat} {v : Value} (h : o1 ≠ o2) : (w.setCell ⟨g, o1, none⟩ v).cell? ⟨g, o2, none⟩ = w.cell? ⟨g, o2, none⟩ := World.cell?_setCell_other _ _ _ _ (by intro e; cases e; exact h rfl)
theorem RowAt.set {w : World} {g n : Nat} {f : Nat → Id.I} (h : RowAt w g n f) {k : Nat} (a : Id.I) :
    RowAt ((w.setCell ⟨g, k * 2, none⟩ (.int .i64 a.1)).setCell ⟨g, k * 2 + 1, none⟩ (.int .i64 a.2)) g n (upd f k a) := by
  intro j hj
  obtain ⟨h0, h1, h2, h3⟩ := h j hj
  refine ⟨?_, ?_, by simpa using h2, by simpa using h3⟩
  · unfold upd
    rw [cell_other (by omega)]
    by_cases e : j = k
    · subst e; rw [if_pos rfl]; exact World.cell?_setCell_same _ _ _ h0
    · rw [if_neg e, cell_other (by omega)]; exact h0
  · unfold upd
    by_cases e : j = k
    · subst e; rw [if_pos rfl]; exact World.cell?_setCell_same _ _ _ (u := .int .i64 (f j).2) (by rw [cell_other (by omega)]; exact h1)
    · rw [if_neg e, cell_other (by omega), cell_other (by omega)]; exact h1
theorem RowAt.all {w : World} {g n : Nat} {f : Nat → Id.I} (h : RowAt w g n f) (t : Nat) (ht : t < n * 2) : (w.cell? ⟨g, t, none⟩).isSome = true ∧ w.frozen? ⟨g, t, none⟩ = false := by
  obtain ⟨h0, h1, h2, h3⟩ := h (t / 2) (by omega)
  rcases Nat.mod_two_eq_zero_or_one t with e | e
  · rw [show t / 2 * 2 = t by omega] at h0 h2
    exact ⟨by rw [h0]; rfl, h2⟩
  · rw [show t / 2 * 2 + 1 = t by omega] at h1 h3
    exact ⟨by rw [h1]; rfl, h3⟩
theorem RowAt.clear {w : World} {g n : Nat} {f : Nat → Id.I} (h : RowAt w g n f) {k : Nat} (hk : k < n) (c : Nat) (ty : TypeId) :
    (Builtin.clear_ #[22] ty #[.slice (some ⟨g, k * 2, none⟩) (n - k) (c - k)]).run Tryz.prog w = .ok (.tuple #[]) (w.setCells g (k * 2) (List.replicate ((n - k) * 2) (.int .i64 0))) :=
  clear_id w ty g (k * 2) (n - k) (c - k) (by omega) (fun j hj => (h.all _ (by omega)).1) (fun j hj => (h.all _ (by omega)).2)
theorem RowAt.cleared {w : World} {g n : Nat} {f : Nat → Id.I} (h : RowAt w g n f) {k : Nat} (hk : k ≤ n) (vs : List Value) : IdsAt (w.setCells g (k * 2) vs) g 0 (listOf f k) := by
  intro j a hj
  have hjk : j < k := by
    rw [← listOf_len f k]
    exact (List.getElem?_eq_some_iff.1 hj).1
  rw [listOf_get f hjk] at hj
  cases hj
  obtain ⟨h0, h1, _, _⟩ := h j (by omega)
  rw [Nat.zero_add, World.cell?_setCells_out g vs _ _ _ (fun _ _ => .inl (by simp; omega)), World.cell?_setCells_out g vs _ _ _ (fun _ _ => .inl (by simp; omega))]
  exact ⟨h0, h1⟩
/-- the first n elements of block g may be written -/
def Fz (w : World) (g n : Nat) : Prop := ∀ j, j < n * 2 → w.frozen? ⟨g, j, none⟩ = false
theorem frozen_setCells (g : Nat) (a : Addr) : ∀ (vs : List Value) (o : Nat) (w : World), (w.setCells g o vs).frozen? a = w.frozen? a
  | [], _, _ => rfl
  | v :: r, o, w => (frozen_setCells g a r (o + 1) _).trans (by simp)
theorem RowAt.fz {w : World} {g n : Nat} {f : Nat → Id.I} (h : RowAt w g n f) : Fz w g n := fun j hj => (h.all j hj).2
theorem Fz.set {w : World} {g n : Nat} (h : Fz w g n) (o : Nat) (vs : List Value) : Fz (w.setCells g o vs) g n := fun j hj => by rw [frozen_setCells]; exact h j hj
theorem grown_setCells (g : Nat) : ∀ (vs : List Value) (o : Nat) (w : World), w.grownBy (w.setCells g o vs) (some g)
  | [], _, _ => ⟨rfl, rfl, rfl, Nat.le_refl _, fun _ _ _ => rfl⟩
  | v :: r, o, w => grown_trans (grown_setCell w g o v) (grown_setCells g r (o + 1) _)
theorem grown_set2 {w wr : World} {g : Nat} (h : w.grownBy wr (some g)) (o1 o2 : Nat) (v1 v2 : Value) : w.grownBy ((wr.setCell ⟨g, o1, none⟩ v1).setCell ⟨g, o2, none⟩ v2) (some g) :=
  grown_trans (grown_trans h (grown_setCell _ _ _ _)) (grown_setCell _ _ _ _)
/-- p elements have been read, k kept -/
structure Kept (f : Nat → Id.I) (p k : Nat) (F : Nat → Id.I) : Prop where
  lt : k < p
  high : ∀ j, p - 1 ≤ j → F j = f j
  low : listOf F k = Id.uniq (listOf f p)
theorem listOf_congr {f g : Nat → Id.I} {n : Nat} (h : ∀ j, j < n → f j = g j) : listOf f n = listOf g n := by
  unfold listOf; apply List.map_congr_left; intro j hj; exact h j (by simpa using hj)
theorem uniq_listOf (f : Nat → Id.I) {p : Nat} (hp : 1 ≤ p) : Id.uniq (listOf f (p + 1)) = if f (p - 1) = f p then Id.uniq (listOf f p) else Id.uniq (listOf f p) ++ [f p] := by
  obtain ⟨q, rfl⟩ : ∃ q, p = q + 1 := ⟨p - 1, by omega⟩
  rw [listOf_succ, listOf_succ, uniq_snoc]; rfl
theorem Kept.keep {f F : Nat → Id.I} {p k : Nat} (h : Kept f p k F) (hp : 1 ≤ p) (e : f p ≠ f (p - 1)) : Kept f (p + 1) (k + 1) (upd F k (f p)) := by
  refine ⟨by have := h.lt; omega, fun j hj => ?_, ?_⟩
  · unfold upd
    rw [if_neg (by have := h.lt; omega)]
    exact h.high j (by omega)
  · rw [uniq_listOf f hp, if_neg (fun x => e x.symm), ← h.low, listOf_succ]
    congr 1
    · apply listOf_congr; intro j hj; unfold upd; rw [if_neg (by omega)]
    · unfold upd; rw [if_pos rfl]
theorem Kept.skip {f F : Nat → Id.I} {p k : Nat} (h : Kept f p k F) (hp : 1 ≤ p) (e : f p = f (p - 1)) : Kept f (p + 1) k F :=
  ⟨by have := h.lt; omega, fun j hj => h.high j (by omega), by rw [uniq_listOf f hp, if_pos e.symm, h.low]⟩
theorem Kept.start {f : Nat → Id.I} {i : Nat} (hd : ∀ j, j < i → f (j + 1) ≠ f j) (e : f (i + 1) = f i) : Kept f (i + 2) (i + 1) f := by
  refine ⟨by omega, fun j _ => rfl, ?_⟩
  rw [uniq_listOf f (by omega), if_pos (by rw [e]; rfl)]
  symm
  refine uniq_diff fun j hj => ?_
  rw [listOf_len] at hj
  rw [listOf_get f hj, listOf_get f (by omega)]
  intro x
  exact hd j (by omega) (Option.some.inj x)

theorem grown_drewN {a b : World} {r : Option Nat} (h : a.grownBy b r) (n : Nat) : a.grownBy (b.drewN n) r := ⟨h.os, h.tape, h.output, h.size, h.block⟩
theorem RowAt.drewN {w : World} {g n : Nat} {f : Nat → Id.I} (h : RowAt w g n f) (q : Nat) : RowAt (w.drewN q) g n f := h

set_option maxRecDepth 100000 in
set_option maxHeartbeats 2000000 in
theorem compact_any (g n c : Nat) (f : Nat → Id.I) (w : World) (h2 : 2 ≤ n) (hn : n ≤ 1000000) (hc : n ≤ c) (hrow : RowAt w g n f) :
    Calls Tryz.prog 22 #[.slice (some ⟨g, 0, none⟩) n c] w fun e w' => e = .returned (.slice (some ⟨g, 0, none⟩) (Id.uniq (listOf f n)).length c) ∧ IdsAt w' g 0 (Id.uniq (listOf f n)) ∧ w.grownBy w' (some g) ∧ Fz w' g n := by
  have HR := Lib.hid hrow
  clear hrow
  go_enter Tryz.func22, Tryz.ntmps22
  go_wp2
  go_loopw [3] (fun s wr => ∃ i : Nat, i < n ∧ s = .int .i64 ((i + 1 : Nat) : Int) ∧ (∀ j, j < i → f (j + 1) ≠ f j) ∧ ∃ q, wr = w.drewN q) (fun s _ => n - (intOf s).toNat)
  case atStart => exact ⟨0, by omega, rfl, fun j hj => by omega, 0, rfl⟩
  case round =>
    obtain ⟨i, hi, rfl, hdiff, q, rfl⟩ := hrel
    have HD := Lib.hid hdiff
    clear hdiff
    by_cases hlt : i + 1 < n
    · obtain ⟨x0, x1, x2, x3⟩ := HR.out (i + 1) hlt
      obtain ⟨y0, y1, y2, y3⟩ := HR.out i hi
      by_cases e : f (i + 1) = f i
      · rw [e] at x0 x1
        have hq := fun w => id_eql_t w (f i)
        obtain ⟨v, hv⟩ : ∃ v, f i = v := ⟨_, rfl⟩
        rw [hv] at x0 x1 y0 y1 hq
        have HV := Lib.hid hv
        have HE := Lib.hid e
        clear hv e
        have w1 : IntKind.i64.wrap ((i : Int) + 1 - 1) = (i : Int) := by rw [Int.add_sub_cancel]; exact IntWalk.i64_in _ (by omega)
        have w2 : IntKind.i64.wrap (i : Int) = (i : Int) := IntWalk.i64_in _ (by omega)
        have w3 : ((i : Int) + 1).toNat = i + 1 := by omega
        have w4 : (0 : Int) ≤ (i : Int) + 1 := by omega
        have w5 : (i : Int) + 1 < (n : Int) := by omega
        have w6 : (i : Int) < (n : Int) := by omega
        have w7 : (i : Int) + 1 - 1 = (i : Int) := by omega
        go_wp2
        go_quiet (fail)
        clear hq w1 w2 w3 w4 w5 w6 w7
        go_wp2
        obtain ⟨K, hK⟩ : ∃ K, i + 1 = K := ⟨_, rfl⟩
        have HK0 := Lib.hid (Kept.start HD.out HE.out)
        rw [show i + 2 = K + 1 by omega, hK] at HK0
        have HKi := Lib.hid hK
        rw [hK]
        have hK1 : 1 ≤ K := by omega
        have hKn : K < n := by omega
        clear hK x0 x1 x2 x3 y0 y1 y2 y3 hlt hi HE HD HV
        obtain ⟨W, hW⟩ : ∃ W, W = w.drewN q := ⟨_, rfl⟩
        go_loopw [3, 5] (fun s3 s5 wr => ∃ (k s : Nat) (F : Nat → Id.I), s3 = .int .i64 k ∧ s5 = .int .i64 ((s + 1 : Nat) : Int) ∧ s + 1 ≤ n - K ∧ Kept f (K + (s + 1)) k F ∧ RowAt wr g n F ∧ w.grownBy wr (some g)) (fun _ s5 _ => n - K - (intOf s5).toNat)
        case atStart => exact ⟨K, 0, f, rfl, rfl, by omega, HK0.out, HR.out, ⟨rfl, rfl, rfl, Nat.le_refl _, fun k _ _ => rfl⟩⟩
        case round =>
          obtain ⟨k, s, F, rfl, rfl, hs, hkept, hrowF, hgr⟩ := hrel
          have hkp := hkept.lt
          have HKE := Lib.hid hkept
          have HRF := Lib.hid hrowF
          have HG := Lib.hid hgr
          by_cases hlt2 : s + 1 < n - K
          · obtain ⟨x0, x1, x2, x3⟩ := hrowF (K + (s + 1)) (by omega)
            obtain ⟨y0, y1, y2, y3⟩ := hrowF (K + s) (by omega)
            obtain ⟨z0, z1, z2, z3⟩ := hrowF k (by omega)
            rw [hkept.high _ (by omega), Nat.add_mul] at x0 x1
            rw [hkept.high _ (by omega), Nat.add_mul] at y0 y1
            clear hkept hrowF hgr x2 x3 y2 y3
            have v1 : IntKind.i64.wrap ((s : Int) + 1 - 1) = (s : Int) := by rw [Int.add_sub_cancel]; exact IntWalk.i64_in _ (by omega)
            have v2 : IntKind.i64.wrap (s : Int) = (s : Int) := IntWalk.i64_in _ (by omega)
            have v3 : ((s : Int) + 1).toNat = s + 1 := by omega
            have v4 : (0 : Int) ≤ (s : Int) + 1 := by omega
            have v5 : (s : Int) + 1 < ((n - K : Nat) : Int) := by omega
            have v6 : (s : Int) < ((n - K : Nat) : Int) := by omega
            have v7 : (s : Int) + 1 - 1 = (s : Int) := by omega
            by_cases e : f (K + (s + 1)) = f (K + s)
            · have hst := HKE.out.skip (by omega) (by rw [e]; rfl)
              have HST := Lib.hid hst
              rw [e] at x0 x1
              have hq := fun w => id_neq_t w (f (K + s))
              obtain ⟨v, hv⟩ : ∃ v, f (K + s) = v := ⟨_, rfl⟩
              rw [hv] at x0 x1 y0 y1 hq
              clear hv e hst
              go_wp2
              go_quiet (fail)
              clear hq v1 v2 v3 v4 v5 v6 v7
              go_wp2
              go_roundw
              case rel => exact ⟨k, s + 1, F, rfl, by go_num, by omega, HST.out, HRF.out.drewN _, grown_drewN HG.out _⟩
              case measure => simp [intOf]; omega
            · have hst := HKE.out.keep (by omega) e
              have HST := Lib.hid hst
              have hq := fun w => id_neq_f w e
              obtain ⟨v, hv⟩ : ∃ v, f (K + s) = v := ⟨_, rfl⟩
              obtain ⟨u, hu⟩ : ∃ u, f (K + (s + 1)) = u := ⟨_, rfl⟩
              rw [hv] at y0 y1 hq
              rw [hu] at x0 x1 hq
              have HU := Lib.hid hu
              have k1 : (k : Int) < (n : Int) := by omega
              clear hv hu e hst
              go_wp2
              go_quiet (fail)
              clear hq v1
              go_wp2
              go_roundw
              case rel => exact ⟨k + 1, s + 1, upd F k u, by go_num, by go_num, by omega, by rw [← HU.out]; exact HST.out, (HRF.out.drewN _).set _, grown_set2 (grown_drewN HG.out _) _ _ _ _⟩
              case measure => simp [intOf]; omega
          · clear hkept hrowF hgr
            have hse : K + (s + 1) = n := by omega
            have HSE := Lib.hid hse
            have hkn : k < n := by omega
            have kc : k ≤ c := by omega
            have hcl := fun ty => HRF.out.clear hkn c ty
            clear hse
            go_wp2
            go_ret
            have hl := HKE.out.low
            rw [HSE.out] at hl
            rw [← hl, listOf_len]
            exact ⟨rfl, HRF.out.cleared (by omega) _, grown_trans HG.out (grown_setCells g _ _ _), HRF.out.fz.set _ _⟩
      · have hq := fun w => id_eql_f w e
        have HE := Lib.hid e
        obtain ⟨v, hv⟩ : ∃ v, f i = v := ⟨_, rfl⟩
        obtain ⟨u, hu⟩ : ∃ u, f (i + 1) = u := ⟨_, rfl⟩
        rw [hv] at y0 y1 hq
        rw [hu] at x0 x1 hq
        clear hv hu e
        have w1 : IntKind.i64.wrap ((i : Int) + 1 - 1) = (i : Int) := by rw [Int.add_sub_cancel]; exact IntWalk.i64_in _ (by omega)
        have w2 : IntKind.i64.wrap (i : Int) = (i : Int) := IntWalk.i64_in _ (by omega)
        have w3 : ((i : Int) + 1).toNat = i + 1 := by omega
        have w4 : (0 : Int) ≤ (i : Int) + 1 := by omega
        have w5 : (i : Int) + 1 < (n : Int) := by omega
        have w6 : (i : Int) < (n : Int) := by omega
        have w7 : (i : Int) + 1 - 1 = (i : Int) := by omega
        go_wp2
        go_quiet (fail)
        clear hq w1 w2 w3 w4 w5 w6 w7
        go_wp2
        go_roundw
        case rel => exact ⟨i + 1, by omega, by go_num, fun j hj => (Nat.lt_succ_iff_lt_or_eq.1 hj).elim (fun h => HD.out j h) (fun h => by rw [h]; exact HE.out), _, rfl⟩
        case measure => simp [intOf]; omega
    · go_wp2
      go_ret
      have hu : Id.uniq (listOf f n) = listOf f n := uniq_diff fun j hj => by
        rw [listOf_len] at hj
        rw [listOf_get f hj, listOf_get f (by omega)]
        intro e
        exact HD.out j (by omega) (Option.some.inj e)
      rw [hu, listOf_len]
      exact ⟨rfl, HR.out.cleared (k := n) (Nat.le_refl _) [], ⟨rfl, rfl, rfl, Nat.le_refl _, fun k _ _ => rfl⟩, HR.out.fz⟩
end Go.Proofs.YtlhkkniebaganaaGreatDoor
