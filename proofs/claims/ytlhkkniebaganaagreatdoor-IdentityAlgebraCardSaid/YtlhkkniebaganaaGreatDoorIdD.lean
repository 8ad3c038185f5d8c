/-
  Identities: lists of them in memory, and the reference's Same, walked.
-/
import Derived.Test.YtlhkkniebaganaaGreatDoorIdC
import Derived.Laws.AppendOwn
namespace Go.Proofs.YtlhkkniebaganaaGreatDoor
open Go.RowKit

/-- the two cells of each identity -/
def IdsAt (w : World) (b o : Nat) (l : List Id.I) : Prop :=
  ∀ (j : Nat) (a : Id.I), l[j]? = some a → w.cell? ⟨b, o + j * 2, none⟩ = some (.int .i64 a.1) ∧ w.cell? ⟨b, o + j * 2 + 1, none⟩ = some (.int .i64 a.2)
/-- a slice value that reads as a list -/
def IdsV (w : World) (v : Value) (l : List Id.I) : Prop :=
  (l = [] ∧ ∃ p c, v = .slice p 0 c) ∨ (l ≠ [] ∧ ∃ b o c, v = .slice (some ⟨b, o, none⟩) l.length c ∧ b < w.heap.size ∧ IdsAt w b o l)
theorem IdsAt.keep {w w' : World} {B b o : Nat} {l : List Id.I} (h : IdsAt w b o l) (hb : Below B w w') (hlt : b < B) : IdsAt w' b o l := by
  intro j a hj
  obtain ⟨h0, h1⟩ := h j a hj
  exact ⟨by rw [hb.cell hlt]; exact h0, by rw [hb.cell hlt]; exact h1⟩
theorem IdsV.keep {w w' : World} {v : Value} {l : List Id.I} (h : IdsV w v l) (hb : Below w.heap.size w w') : IdsV w' v l := by
  rcases h with h | ⟨hne, b, o, c, e, hlt, hat⟩
  · exact .inl h
  · exact .inr ⟨hne, b, o, c, e, Nat.lt_of_lt_of_le hlt hb.size, hat.keep hb hlt⟩

theorem list_ext_get {α : Type} {a b : List α} {n : Nat} (ha : a.length = n) (hb : b.length = n) (h : ∀ j, j < n → a[j]? = b[j]?) : a = b := by
  apply List.ext_getElem?
  intro j
  by_cases hj : j < n
  · exact h j hj
  · rw [List.getElem?_eq_none (by omega), List.getElem?_eq_none (by omega)]
theorem below_drewN {B : Nat} {a w : World} (h : Below B a w) (n : Nat) : Below B a (w.drewN n) := ⟨h.os, h.tape, h.output, h.size, h.block⟩

set_option maxRecDepth 100000 in
set_option maxHeartbeats 1000000 in
theorem same_at (b1 b2 o1 o2 c1 c2 : Nat) (ts us : List Id.I) (w : World) (hn : ts.length = us.length) (hl : ts.length ≤ 1000000) (h1 : IdsAt w b1 o1 ts) (h2 : IdsAt w b2 o2 us) :
    Calls Tryz.prog 6 #[.slice (some ⟨b1, o1, none⟩) ts.length c1, .slice (some ⟨b2, o2, none⟩) us.length c2] w fun e w' => e = .returned (.bool (decide (ts = us))) ∧ Below w.heap.size w w' := by
  have H1 := Lib.hid h1
  have H2 := Lib.hid h2
  have HN := Lib.hid hn
  rw [← hn]
  obtain ⟨n, hn2⟩ : ∃ n, ts.length = n := ⟨_, rfl⟩
  rw [hn2] at hl ⊢
  have HN2 := Lib.hid hn2
  clear h1 h2 hn hn2
  go_enter Tryz.func6, Tryz.ntmps6
  go_wp2
  go_loopw [5] (fun i wr => ∃ k : Nat, k ≤ n ∧ i = .int .i64 k ∧ (∀ j, j < k → ts[j]? = us[j]?) ∧ ∃ q, wr = w.drewN q) (fun i _ => n - (intOf i).toNat)
  case atStart => exact ⟨0, Nat.zero_le _, rfl, fun j hj => by omega, 0, rfl⟩
  case round =>
    obtain ⟨k, hk, rfl, hsame, q, rfl⟩ := hrel
    have HS := Lib.hid hsame
    clear hsame
    by_cases hlt : k < n
    · obtain ⟨t, ht⟩ : ∃ t, ts[k]? = some t := ⟨_, List.getElem?_eq_getElem (by rw [HN2.out]; exact hlt)⟩
      obtain ⟨u, hu⟩ : ∃ u, us[k]? = some u := ⟨_, List.getElem?_eq_getElem (by rw [← HN.out, HN2.out]; exact hlt)⟩
      obtain ⟨x0, x1⟩ := H1.out k t ht
      obtain ⟨y0, y1⟩ := H2.out k u hu
      have HT := Lib.hid ht
      have HU := Lib.hid hu
      clear ht hu
      obtain ⟨t1, t2⟩ := t
      obtain ⟨u1, u2⟩ := u
      simp only [] at x0 x1 y0 y1
      by_cases e : (t1, t2) = (u1, u2)
      · cases e
        have hq : ∀ w, (binOp .neq 24 (.agg #[.int .i64 t1, .int .i64 t2]) (.agg #[.int .i64 t1, .int .i64 t2])).run Tryz.prog w = .ok (.bool false) w := fun w => by rw [id_neq]; simp
        go_wp2
        go_quiet (fail)
        go_wp2
        go_roundw
        case rel =>
          refine ⟨k + 1, by omega, by go_num, fun j hj => ?_, _, rfl⟩
          by_cases e : j = k
          · rw [e, HT.out, HU.out]
          · exact HS.out j (by omega)
        case measure => simp [intOf]; omega
      · have hq : ∀ w, (binOp .neq 24 (.agg #[.int .i64 t1, .int .i64 t2]) (.agg #[.int .i64 u1, .int .i64 u2])).run Tryz.prog w = .ok (.bool true) w := fun w => by
          rw [id_neq]
          have : (t1 == u1 && t2 == u2) = false := by
            rw [Bool.eq_false_iff]
            intro h
            simp only [Bool.and_eq_true, beq_iff_eq] at h
            exact e (by rw [h.1, h.2])
          rw [this]; rfl
        have HE := Lib.hid e
        clear e
        go_wp2
        go_quiet (fail)
        clear hq
        go_wp2
        go_ret
        refine ⟨ret_bool (decide_eq_false fun e => HE.out ?_).symm, by ((repeat' (first | (with_reducible exact Below.refl _ _) | (with_reducible refine Below.drew ?_) | (with_reducible refine below_drewN ?_ _) | (with_reducible refine Below.alloc ?_ ?_ _) | (with_reducible refine Below.setCell ?_ ?_ _))) <;> (simp <;> omega))⟩
        have h5 := HT.out
        rw [e, HU.out] at h5
        exact (Option.some.inj h5).symm
    · go_wp2
      go_ret
      exact ⟨ret_bool (decide_eq_true (list_ext_get (n := n) HN2.out (by rw [← HN.out, HN2.out]) fun j hj => HS.out j (by omega))).symm, by ((repeat' (first | (with_reducible exact Below.refl _ _) | (with_reducible refine Below.drew ?_) | (with_reducible refine below_drewN ?_ _) | (with_reducible refine Below.alloc ?_ ?_ _) | (with_reducible refine Below.setCell ?_ ?_ _))) <;> (simp <;> omega))⟩

set_option maxRecDepth 100000 in
set_option maxHeartbeats 1000000 in
/-- Same, where the lengths differ -/
theorem same_lens (a1 a2 : Option Addr) (n1 n2 c1 c2 : Nat) (w : World) (hn : n1 ≠ n2) :
    Calls Tryz.prog 6 #[.slice a1 n1 c1, .slice a2 n2 c2] w fun e w' => e = .returned (.bool false) ∧ w = w' := by
  have h : ((n1 : Int) != (n2 : Int)) = true := by rw [bne_iff_ne]; omega
  clear hn
  go_enter Tryz.func6, Tryz.ntmps6
  go_wp2
  go_ret
  exact ⟨rfl, rfl⟩
set_option maxRecDepth 100000 in
set_option maxHeartbeats 1000000 in
theorem same_empty (a1 a2 : Option Addr) (c1 c2 : Nat) (w : World) :
    Calls Tryz.prog 6 #[.slice a1 0 c1, .slice a2 0 c2] w fun e w' => e = .returned (.bool true) ∧ w = w' := by
  go_enter Tryz.func6, Tryz.ntmps6
  go_wp2
  refine wp_loop_rounds 1 ?_
  rw [rounds_succ]
  go_wp2
  go_ret
  exact ⟨rfl, rfl⟩
theorem same_v {v1 v2 : Value} {l1 l2 : List Id.I} {w : World} (h1 : IdsV w v1 l1) (h2 : IdsV w v2 l2) (hl : l1.length ≤ 1000000) :
    Calls Tryz.prog 6 #[v1, v2] w fun e w' => e = .returned (.bool (decide (l1 = l2))) ∧ Below w.heap.size w w' := by
  rcases h1 with ⟨rfl, p1, c1, rfl⟩ | ⟨n1, b1, o1, c1, rfl, _, a1⟩ <;> rcases h2 with ⟨rfl, p2, c2, rfl⟩ | ⟨n2, b2, o2, c2, rfl, _, a2⟩
  · exact (same_empty p1 p2 c1 c2 w).mono fun _ _ ⟨h, e⟩ => ⟨h, e ▸ Below.refl _ _⟩
  · have : 0 ≠ l2.length := fun e => n2 (List.eq_nil_of_length_eq_zero e.symm)
    exact (same_lens p1 _ 0 l2.length c1 c2 w this).mono fun _ _ ⟨h, e⟩ => ⟨by rw [h, decide_eq_false (fun e => n2 e.symm)], e ▸ Below.refl _ _⟩
  · have : l1.length ≠ 0 := fun e => n1 (List.eq_nil_of_length_eq_zero e)
    exact (same_lens _ p2 l1.length 0 c1 c2 w this).mono fun _ _ ⟨h, e⟩ => ⟨by rw [h, decide_eq_false n1], e ▸ Below.refl _ _⟩
  · by_cases e : l1.length = l2.length
    · exact same_at b1 b2 o1 o2 c1 c2 l1 l2 w e hl a1 a2
    · exact (same_lens _ _ l1.length l2.length c1 c2 w e).mono fun _ _ ⟨h, e2⟩ => ⟨by rw [h, decide_eq_false (fun e3 => e (by rw [e3]))], e2 ▸ Below.refl _ _⟩
end Go.Proofs.YtlhkkniebaganaaGreatDoor
