/-
  Identities: Has, the program's and the reference's, walked.
-/
import Derived.Test.YtlhkkniebaganaaGreatDoorIdSetA
namespace Go.Proofs.YtlhkkniebaganaaGreatDoor
open Go.RowKit

theorem hasB_at {l : List Id.I} {x : Id.I} {k : Nat} (h : l[k]? = some x) : Id.hasB l x = true := decide_eq_true (List.mem_of_getElem? h)
theorem hasB_no {l : List Id.I} {x : Id.I} {n : Nat} (hn : l.length = n) (h : ∀ j, j < n → l[j]? ≠ some x) : Id.hasB l x = false := by
  refine decide_eq_false fun hm => ?_
  obtain ⟨j, hj, e⟩ := List.mem_iff_getElem.1 hm
  exact h j (by omega) (by rw [List.getElem?_eq_getElem hj, e])

set_option maxRecDepth 100000 in
set_option maxHeartbeats 1000000 in
theorem hasRef_empty (p : Option Addr) (c : Nat) (x : Id.I) (w : World) :
    Calls Tryz.prog 14 #[.slice p 0 c, idV x] w fun e w' => e = .returned (.bool false) ∧ Below w.heap.size w w' := by
  unfold idV
  go_enter Tryz.func14, Tryz.ntmps14
  go_wp2
  refine wp_loop_rounds 1 ?_
  rw [rounds_succ]
  go_wp2
  go_ret
  exact ⟨rfl, below_alloc _ _⟩

set_option maxRecDepth 100000 in
set_option maxHeartbeats 1000000 in
theorem hasRef_at (b o c : Nat) (l : List Id.I) (x : Id.I) (w : World) (hl : l.length ≤ 1000000) (hlt : b < w.heap.size) (h : IdsAt w b o l) :
    Calls Tryz.prog 14 #[.slice (some ⟨b, o, none⟩) l.length c, idV x] w fun e w' => e = .returned (.bool (Id.hasB l x)) ∧ Below w.heap.size w w' := by
  obtain ⟨x1, x2⟩ := x
  have hbw := below_alloc w (.cells #[.int .i64 x1, .int .i64 x2] 24)
  obtain ⟨n0, n1, _, _⟩ := cell_new w x1 x2
  obtain ⟨n, hn⟩ : ∃ n, l.length = n := ⟨_, rfl⟩
  have H := Lib.hid (h.keep hbw hlt)
  rw [hn] at hl ⊢
  have HN := Lib.hid hn
  unfold idV
  clear h hn hbw
  go_enter Tryz.func14, Tryz.ntmps14
  go_wp2
  go_loopw [5] (fun i wr => ∃ k : Nat, k ≤ n ∧ i = .int .i64 k ∧ (∀ j, j < k → l[j]? ≠ some (x1, x2)) ∧ ∃ q, wr = (w.alloc (.cells #[.int .i64 x1, .int .i64 x2] 24)).drewN q) (fun i _ => n - (intOf i).toNat)
  case atStart => exact ⟨0, Nat.zero_le _, rfl, fun j hj => by omega, 0, rfl⟩
  case round =>
    obtain ⟨k, hk, rfl, hno, q, rfl⟩ := hrel
    have HS := Lib.hid hno
    clear hno
    by_cases hlt2 : k < n
    · obtain ⟨t, ht⟩ : ∃ t, l[k]? = some t := ⟨_, List.getElem?_eq_getElem (by rw [HN.out]; exact hlt2)⟩
      obtain ⟨y0, y1⟩ := H.out k t ht
      have HT := Lib.hid ht
      clear ht
      obtain ⟨t1, t2⟩ := t
      simp only [] at y0 y1
      by_cases e : (t1, t2) = (x1, x2)
      · cases e
        have hq := fun w => id_eql_t w (x1, x2)
        simp only [] at hq
        go_wp2
        go_quiet (fail)
        clear hq
        go_wp2
        go_ret
        exact ⟨ret_bool (hasB_at HT.out).symm, by ((repeat' (first | (with_reducible exact below_alloc _ _) | (with_reducible refine Below.drew ?_) | (with_reducible refine below_drewN ?_ _))))⟩
      · have hq := fun w => id_eql_f w e
        simp only [] at hq
        have HE := Lib.hid e
        clear e
        go_wp2
        go_quiet (fail)
        clear hq
        go_wp2
        go_roundw
        case rel =>
          refine ⟨k + 1, by omega, by go_num, fun j hj => ?_, _, rfl⟩
          by_cases e : j = k
          · rw [e, HT.out]; exact fun e => HE.out (Option.some.inj e)
          · exact HS.out j (by omega)
        case measure => simp [intOf]; omega
    · go_wp2
      go_ret
      exact ⟨ret_bool (hasB_no HN.out fun j hj => HS.out j (by omega)).symm, by ((repeat' (first | (with_reducible exact below_alloc _ _) | (with_reducible refine Below.drew ?_) | (with_reducible refine below_drewN ?_ _))))⟩
theorem hasB_nil (x : Id.I) : Id.hasB [] x = false := by unfold Id.hasB; simp
theorem hasRef_v {v : Value} {l : List Id.I} {w : World} (x : Id.I) (h : IdsV w v l) (hl : l.length ≤ 1000000) :
    Calls Tryz.prog 14 #[v, idV x] w fun e w' => e = .returned (.bool (Id.hasB l x)) ∧ Below w.heap.size w w' := by
  rcases h with ⟨rfl, p, c, rfl⟩ | ⟨_, b, o, c, rfl, hlt, hat⟩
  · rw [hasB_nil]; exact hasRef_empty p c x w
  · exact hasRef_at b o c l x w hl hlt hat
set_option maxRecDepth 100000 in
set_option maxHeartbeats 1000000 in
theorem index_empty (p : Option Addr) (c : Nat) (x : Id.I) (w : World) :
    Calls Tryz.prog 40 #[.slice p 0 c, idV x] w fun e w' => e = .returned (.int .i64 (-1)) ∧ Below w.heap.size w w' := by
  unfold idV
  go_enter Tryz.func40, Tryz.ntmps40
  go_wp2
  refine wp_loop_rounds 1 ?_
  rw [rounds_succ]
  go_wp2
  go_ret
  exact ⟨rfl, below_alloc _ _⟩

set_option maxRecDepth 100000 in
set_option maxHeartbeats 1000000 in
theorem index_at (b o c : Nat) (l : List Id.I) (x : Id.I) (w : World) (hl : l.length ≤ 1000000) (hlt : b < w.heap.size) (h : IdsAt w b o l) :
    Calls Tryz.prog 40 #[.slice (some ⟨b, o, none⟩) l.length c, idV x] w fun e w' => (∃ i : Int, e = .returned (.int .i64 i) ∧ decide (0 ≤ i) = Id.hasB l x) ∧ Below w.heap.size w w' := by
  obtain ⟨x1, x2⟩ := x
  have hbw := below_alloc w (.cells #[.int .i64 x1, .int .i64 x2] 24)
  obtain ⟨n0, n1, _, _⟩ := cell_new w x1 x2
  obtain ⟨n, hn⟩ : ∃ n, l.length = n := ⟨_, rfl⟩
  have H := Lib.hid (h.keep hbw hlt)
  rw [hn] at hl ⊢
  have HN := Lib.hid hn
  unfold idV
  clear h hn hbw
  go_enter Tryz.func40, Tryz.ntmps40
  go_wp2
  go_loopw [8] (fun i wr => ∃ k : Nat, k ≤ n ∧ i = .int .i64 k ∧ (∀ j, j < k → l[j]? ≠ some (x1, x2)) ∧ ∃ q, wr = (w.alloc (.cells #[.int .i64 x1, .int .i64 x2] 24)).drewN q) (fun i _ => n - (intOf i).toNat)
  case atStart => exact ⟨0, Nat.zero_le _, rfl, fun j hj => by omega, 0, rfl⟩
  case round =>
    obtain ⟨k, hk, rfl, hno, q, rfl⟩ := hrel
    have HS := Lib.hid hno
    clear hno
    by_cases hlt2 : k < n
    · obtain ⟨t, ht⟩ : ∃ t, l[k]? = some t := ⟨_, List.getElem?_eq_getElem (by rw [HN.out]; exact hlt2)⟩
      obtain ⟨y0, y1⟩ := H.out k t ht
      have HT := Lib.hid ht
      clear ht
      obtain ⟨t1, t2⟩ := t
      simp only [] at y0 y1
      by_cases e : (t1, t2) = (x1, x2)
      · cases e
        have hq := fun w => id_eql_t w (x1, x2)
        simp only [] at hq
        go_wp2
        go_quiet (fail)
        clear hq
        go_wp2
        go_ret
        exact ⟨⟨_, rfl, by rw [hasB_at HT.out]; simp⟩, by ((repeat' (first | (with_reducible exact below_alloc _ _) | (with_reducible refine Below.drew ?_) | (with_reducible refine below_drewN ?_ _))))⟩
      · have hq := fun w => id_eql_f w (a := (x1, x2)) (b := (t1, t2)) (fun h => e h.symm)
        simp only [] at hq
        have HE := Lib.hid e
        clear e
        go_wp2
        go_quiet (fail)
        clear hq
        go_wp2
        go_roundw
        case rel =>
          refine ⟨k + 1, by omega, by go_num, fun j hj => ?_, _, rfl⟩
          by_cases e : j = k
          · rw [e, HT.out]; exact fun e => HE.out (Option.some.inj e)
          · exact HS.out j (by omega)
        case measure => simp [intOf]; omega
    · go_wp2
      go_ret
      exact ⟨⟨_, rfl, by rw [hasB_no HN.out fun j hj => HS.out j (by omega)]; simp⟩, by ((repeat' (first | (with_reducible exact below_alloc _ _) | (with_reducible refine Below.drew ?_) | (with_reducible refine below_drewN ?_ _))))⟩
theorem index_v {v : Value} {l : List Id.I} {w : World} (x : Id.I) (h : IdsV w v l) (hl : l.length ≤ 1000000) :
    Calls Tryz.prog 40 #[v, idV x] w fun e w' => (∃ i : Int, e = .returned (.int .i64 i) ∧ decide (0 ≤ i) = Id.hasB l x) ∧ Below w.heap.size w w' := by
  rcases h with ⟨rfl, p, c, rfl⟩ | ⟨_, b, o, c, rfl, hlt, hat⟩
  · rw [hasB_nil]; exact (index_empty p c x w).mono fun e w' ⟨h1, h2⟩ => ⟨⟨_, h1, by simp⟩, h2⟩
  · exact index_at b o c l x w hl hlt hat
set_option maxRecDepth 100000 in
set_option maxHeartbeats 1000000 in
theorem contains_v {v : Value} {l : List Id.I} {w : World} (x : Id.I) (h : IdsV w v l) (hl : l.length ≤ 1000000) :
    Calls Tryz.prog 27 #[v, idV x] w fun e w' => e = .returned (.bool (Id.hasB l x)) ∧ Below w.heap.size w w' := by
  obtain ⟨x1, x2⟩ := x
  have hbw := below_alloc w (.cells #[.int .i64 x1, .int .i64 x2] 24)
  obtain ⟨n0, n1, _, _⟩ := cell_new w x1 x2
  have HI := Lib.hid (index_v (x1, x2) (h.keep hbw) hl)
  have HB := Lib.hid hbw
  unfold idV
  clear h hbw
  go_enter Tryz.func27, Tryz.ntmps27
  go_wp2_with fail
  refine HI.out.mono ?_
  rintro e w' ⟨⟨i, rfl, hi⟩, hb⟩
  have HII := Lib.hid hi
  clear hi
  go_wp2_with fail
  go_ret
  exact ⟨ret_bool HII.out, HB.out.trans (hb.mono (by simp))⟩
set_option maxRecDepth 100000 in
set_option maxHeartbeats 1000000 in
theorem has_v {v : Value} {l : List Id.I} {w : World} (x : Id.I) (h : IdsV w v l) (hl : l.length ≤ 1000000) :
    Calls Tryz.prog 13 #[v, idV x] w fun e w' => e = .returned (.bool (Id.hasB l x)) ∧ Below w.heap.size w w' := by
  obtain ⟨x1, x2⟩ := x
  have hbw := below_alloc w (.cells #[.int .i64 x1, .int .i64 x2] 24)
  obtain ⟨n0, n1, _, _⟩ := cell_new w x1 x2
  have HI := Lib.hid (contains_v (x1, x2) (h.keep hbw) hl)
  have HB := Lib.hid hbw
  unfold idV
  clear h hbw
  go_enter Tryz.func13, Tryz.ntmps13
  go_wp2_with fail
  refine HI.out.mono ?_
  rintro e w' ⟨rfl, hb⟩
  go_wp2_with fail
  go_ret
  exact ⟨rfl, HB.out.trans (hb.mono (by simp))⟩
end Go.Proofs.YtlhkkniebaganaaGreatDoor
