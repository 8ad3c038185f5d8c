/-
  Identities: the small functions of the program and of the reference, walked: Valid, Compare, Or.
-/
import Derived.Test.YtlhkkniebaganaaGreatDoorRows
import Derived.Test.YtlhkkniebaganaaGreatDoorIdText
import Derived.WalkKit
import Derived.WalkSpells
import Derived.WalkLawsBesides
import Derived.Lib.Hide
import Derived.Lib.Strings
import Derived.Below
import Derived.Laws.StructEq
import Derived.Sort.Grow
import Derived.Deep.RegionHeld3
import Derived.Deep.QuietTactic
import Derived.BigQuiet
namespace Go.Proofs.YtlhkkniebaganaaGreatDoor
open Go.RowKit

theorem idT : Tryz.prog.underlying 24 = some (.struct (Tryz.prog.fieldsOf 24)) := by kernel_rfl
theorem idHeld : Tryz.prog.stoodInHeld 24 = false := by kernel_rfl

/-- an identity as a value -/
def idV (a : Id.I) : Value := .agg #[.int .i64 a.1, .int .i64 a.2]

theorem ret_bool {a b : Bool} (h : a = b) : Ending.returned (.bool a) = .returned (.bool b) := by rw [h]
theorem ret_i64 {a b : Int} (h : a = b) : Ending.returned (.int .i64 a) = .returned (.int .i64 b) := by rw [h]

set_option maxHeartbeats 400000 in
theorem valid_any (m n : Int) (w : World) : Calls Tryz.prog 33 #[.agg #[.int .i64 m, .int .i64 n]] w fun e w' => e = .returned (.bool (Id.validB m n)) ∧ Below w.heap.size w w' := by
  by_cases a : 1 ≤ m <;> by_cases b : m ≤ 8 <;> by_cases c : 1 ≤ n <;> by_cases d : n ≤ 1099511627775 <;> try omega
  all_goals
    go_enter Tryz.func33, Tryz.ntmps33
    go_wp2
    go_ret
    exact ⟨ret_bool (by simp [Id.validB, a, b, c, d]), (Below.refl _ _).alloc (Nat.le_refl _) _⟩

def cmpI (a b : Int) : Int := if a < b then -1 else if b < a then 1 else 0
theorem cmpI_lt {a b : Int} (h : a < b) : cmpI a b = -1 := by unfold cmpI; rw [if_pos h]
theorem cmpI_eq (a : Int) : cmpI a a = 0 := by unfold cmpI; rw [if_neg (by omega), if_neg (by omega)]
theorem cmpI_gt {a b : Int} (h : b < a) : cmpI a b = 1 := by unfold cmpI; rw [if_neg (by omega), if_pos h]

theorem isNaN_any (x : Int) (w0 : World) : Calls Tryz.prog 41 #[.int .i64 x] w0 fun e w' => e = .returned (.bool false) ∧ w0 = w' := by
  go_enter Tryz.func41, Tryz.ntmps41
  go_wp2
  go_ret
  exact ⟨by simp, rfl⟩

set_option maxHeartbeats 400000 in
theorem compareInt_any (a b : Int) (w : World) : Calls Tryz.prog 29 #[.int .i64 a, .int .i64 b] w fun e w' => e = .returned (.int .i64 (cmpI a b)) ∧ w = w' := by
  have HN := Lib.hid isNaN_any
  rcases Int.lt_trichotomy a b with h | h | h
  · go_enter Tryz.func29, Tryz.ntmps29
    go_wp2_with (go_at_call 41; refine (HN.out _ _).mono ?_; rintro e w' ⟨rfl, rfl⟩)
    go_ret
    exact ⟨ret_i64 (cmpI_lt h).symm, rfl⟩
  · subst h
    go_enter Tryz.func29, Tryz.ntmps29
    go_wp2_with (go_at_call 41; refine (HN.out _ _).mono ?_; rintro e w' ⟨rfl, rfl⟩)
    go_ret
    exact ⟨ret_i64 (cmpI_eq a).symm, rfl⟩
  · have h1 : ¬ a < b := by omega
    go_enter Tryz.func29, Tryz.ntmps29
    go_wp2_with (go_at_call 41; refine (HN.out _ _).mono ?_; rintro e w' ⟨rfl, rfl⟩)
    go_ret
    exact ⟨ret_i64 (cmpI_gt h).symm, rfl⟩

def orI (a b : Int) : Int := if a = 0 then b else a
theorem orI_cmp (a b : Id.I) : orI (cmpI a.1 b.1) (cmpI a.2 b.2) = Id.cmp a b := by
  unfold orI cmpI Id.cmp
  (repeat' split) <;> omega
theorem orI_0 (b : Int) : orI 0 b = b := by unfold orI; rw [if_pos rfl]
theorem orI_n {a : Int} (h : a ≠ 0) (b : Int) : orI a b = a := by unfold orI; rw [if_neg h]

theorem cell_lt {w : World} {b o : Nat} {v : Value} (h : w.cell? ⟨b, o, none⟩ = some v) : b < w.heap.size := by
  rcases Nat.lt_or_ge b w.heap.size with h' | h'
  · exact h'
  · simp [World.cell?, Array.getElem?_eq_none h'] at h
theorem below_cell {w w' : World} (h : Below w.heap.size w w') {b o : Nat} {v : Value} (hc : w.cell? ⟨b, o, none⟩ = some v) : w'.cell? ⟨b, o, none⟩ = some v :=
  (h.cell (p := ⟨b, o, none⟩) (cell_lt hc)).trans hc

set_option maxHeartbeats 400000 in
theorem or_any (g c : Nat) (x y : Int) (w : World) (h0 : w.cell? ⟨g, 0, none⟩ = some (.int .i64 x)) (h1 : w.cell? ⟨g, 1, none⟩ = some (.int .i64 y)) :
    Calls Tryz.prog 28 #[.slice (some ⟨g, 0, none⟩) 2 c] w fun e w' => e = .returned (.int .i64 (orI x y)) ∧ w = w' := by
  go_enter Tryz.func28, Tryz.ntmps28
  go_wp2_with fail
  go_loop [8] (fun i => ∃ k : Nat, i = .int .i64 k ∧ k ≤ 2 ∧ Hid (0 < k → x = 0) ∧ Hid (1 < k → y = 0)) (fun i => 2 - (intOf i).toNat)
  case atStart => exact ⟨0, rfl, by omega, (by intro h; omega : 0 < 0 → x = 0), (by intro h; omega : 1 < 0 → y = 0)⟩
  case round =>
    obtain ⟨k, rfl, hk, hx, hy⟩ := hrel
    match k, hk with
    | 0, _ =>
      by_cases e : x = 0
      · have HE := Lib.hid e
        have hne : (x != 0) = false := by rw [e]; rfl
        clear e
        go_wp2_with fail
        go_round
        case rel => exact ⟨1, by go_num, by omega, (fun _ => HE.out : 0 < 1 → x = 0), (by intro h; omega : 1 < 1 → y = 0)⟩
        case measure => simp [intOf]
      · have HE := Lib.hid e
        have hne : (x != 0) = true := by rw [bne_iff_ne]; exact e
        clear e
        go_wp2_with fail
        go_ret
        exact ⟨ret_i64 (orI_n HE.out y).symm, rfl⟩
    | 1, _ =>
      by_cases e : y = 0
      · have HE := Lib.hid e
        have hne : (y != 0) = false := by rw [e]; rfl
        clear e
        go_wp2_with fail
        go_round
        case rel => exact ⟨2, by go_num, by omega, (fun _ => hx.out (by omega) : 0 < 2 → x = 0), (fun _ => HE.out : 1 < 2 → y = 0)⟩
        case measure => simp [intOf]
      · have HE := Lib.hid e
        have hne : (y != 0) = true := by rw [bne_iff_ne]; exact e
        clear e
        go_wp2_with fail
        go_ret
        exact ⟨ret_i64 (by rw [hx.out (by omega), orI_0]), rfl⟩
    | 2, _ =>
      go_wp2_with fail
      go_ret
      exact ⟨ret_i64 (by rw [hx.out (by omega), orI_0, hy.out (by omega)]), rfl⟩

/-- the blocks that Compare lays -/
def cmpBlocks (a b : Id.I) : Array Obj := #[.cells #[.int .i64 a.1, .int .i64 a.2] 24, .cells #[.int .i64 b.1, .int .i64 b.2] 24, .cells #[.int .i64 (cmpI a.1 b.1), .int .i64 (cmpI a.2 b.2)] 3]
theorem new_cell {W : World} {h0 : Array Obj} {cs : Array Value} {t : TypeId} {b : Nat} (hW : W.heap = h0.push (.cells cs t)) (hb : b = h0.size) (j : Nat) (u : Value) (h : cs[j]? = some u) : W.cell? ⟨b, j, none⟩ = some u := by
  unfold World.cell?
  simp [hW, hb]
  simpa using h

set_option maxHeartbeats 1000000 in
theorem compare_grow (a b : Id.I) (w : World) : Calls Tryz.prog 15 #[idV a, idV b] w fun e w' => e = .returned (.int .i64 (Id.cmp a b)) ∧ w' = Go.Sort.grow (w.drewN 1) (cmpBlocks a b) := by
  obtain ⟨a1, a2⟩ := a
  obtain ⟨b1, b2⟩ := b
  unfold idV
  go_enter Tryz.func15, Tryz.ntmps15
  go_wp2_with fail
  go_region_held3 (fun w' => w'.cell? ⟨w.heap.size, 0, none⟩ = some (.int .i64 a1) ∧ w'.cell? ⟨w.heap.size, 1, none⟩ = some (.int .i64 a2) ∧ w'.cell? ⟨w.heap.size + 1, 0, none⟩ = some (.int .i64 b1) ∧ w'.cell? ⟨w.heap.size + 1, 1, none⟩ = some (.int .i64 b2)) (go_keep) (first | (go_at_call 29; refine (compareInt_any _ _ _).mono ?_; rintro e w' ⟨rfl, rfl⟩) | (go_at_call 28; refine (or_any _ _ (cmpI a1 b1) (cmpI a2 b2) _ (by exact new_cell rfl (by simp) _ _ rfl) (by exact new_cell rfl (by simp) _ _ rfl)).mono ?_; rintro e w' ⟨rfl, rfl⟩))
  all_goals
    rename_i hheld
    clear hheld
    go_wp2_with fail
    go_ret
    refine ⟨ret_i64 (orI_cmp (a1, a2) (b1, b2)), ?_⟩
    unfold Go.Sort.grow cmpBlocks World.drewN World.drew World.alloc
    simp
    apply Array.ext'
    simp
theorem compare_any (a b : Id.I) (w : World) : Calls Tryz.prog 15 #[idV a, idV b] w fun e w' => e = .returned (.int .i64 (Id.cmp a b)) ∧ Below w.heap.size w w' :=
  (compare_grow a b w).mono fun _ _ ⟨h1, h2⟩ => ⟨h1, by rw [h2]; exact ⟨rfl, rfl, rfl, by simp [Go.Sort.grow, World.drewN], fun k hk => Go.Sort.heap_grow_old _ _ hk⟩⟩
end Go.Proofs.YtlhkkniebaganaaGreatDoor
