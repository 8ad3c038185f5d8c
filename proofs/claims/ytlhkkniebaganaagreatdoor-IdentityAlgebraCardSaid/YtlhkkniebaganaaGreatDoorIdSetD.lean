/-
  Identities: the reference's Set, walked.
-/
import Derived.Test.YtlhkkniebaganaaGreatDoorIdSetC
namespace Go.Proofs.YtlhkkniebaganaaGreatDoor
open Go.RowKit

theorem put_v {v : Value} {l : List Id.I} {w : World} (x : Id.I) (h : PutV w v l) (hl : l.length ≤ 1000) :
    Calls Tryz.prog 23 #[v, idV x] w fun e w' => ∃ v', e = .returned v' ∧ PutV w' v' (Id.put l x) ∧ Below w.heap.size w w' := by
  obtain ⟨b, o, c, rfl, hc, hlt, hat⟩ := h
  exact put_at b o c l x w hl hc hlt hat
theorem putV_made (w : World) (o : Obj) : PutV (w.alloc o) (.slice (some ⟨w.heap.size, 0, none⟩) 0 0) [] :=
  ⟨w.heap.size, 0, 0, rfl, Nat.le_refl _, by simp, fun j a h => by simp at h⟩
theorem setL_take {l : List Id.I} {k : Nat} {x : Id.I} (h : l[k]? = some x) : Id.setL (l.take (k + 1)) = Id.put (Id.setL (l.take k)) x := by
  have : l.take (k + 1) = l.take k ++ [x] := by rw [List.take_add_one, h]; rfl
  rw [this, Id.setL_snoc]

set_option maxRecDepth 100000 in
set_option maxHeartbeats 1000000 in
theorem setRef_empty (p : Option Addr) (c : Nat) (w : World) :
    Calls Tryz.prog 8 #[.slice p 0 c] w fun e w' => ∃ v', e = .returned v' ∧ PutV w' v' [] ∧ Below w.heap.size w w' := by
  go_enter Tryz.func8, Tryz.ntmps8
  go_wp2
  refine wp_loop_rounds 1 ?_
  rw [rounds_succ]
  go_wp2
  go_ret
  exact ⟨_, rfl, putV_made _ _, below_alloc _ _⟩

set_option maxRecDepth 100000 in
set_option maxHeartbeats 1000000 in
theorem setRef_at (b o c : Nat) (l : List Id.I) (w : World) (hl : l.length ≤ 900) (hlt : b < w.heap.size) (h : IdsAt w b o l) :
    Calls Tryz.prog 8 #[.slice (some ⟨b, o, none⟩) l.length c] w fun e w' => ∃ v', e = .returned v' ∧ PutV w' v' (Id.setL l) ∧ Below w.heap.size w w' := by
  obtain ⟨n, hn⟩ : ∃ n, l.length = n := ⟨_, rfl⟩
  have H := Lib.hid h
  rw [hn] at hl ⊢
  have HN := Lib.hid hn
  clear h hn
  go_enter Tryz.func8, Tryz.ntmps8
  go_wp2
  go_loopw [3, 4] (fun v i wr => ∃ k : Nat, k ≤ n ∧ i = .int .i64 k ∧ PutV wr v (Id.setL (l.take k)) ∧ Below w.heap.size w wr) (fun _ i _ => n - (intOf i).toNat)
  case atStart => exact ⟨0, Nat.zero_le _, rfl, putV_made _ _, below_alloc _ _⟩
  case round =>
    obtain ⟨k, hk, rfl, hput, hbel⟩ := hrel
    have HP := Lib.hid hput
    have HB := Lib.hid hbel
    by_cases hlt2 : k < n
    · obtain ⟨t, ht⟩ : ∃ t, l[k]? = some t := ⟨_, List.getElem?_eq_getElem (by rw [HN.out]; exact hlt2)⟩
      obtain ⟨y0, y1⟩ := (H.out.keep hbel hlt) k t ht
      have hlen : (Id.setL (l.take k)).length ≤ 1000 := by
        have := Id.setL_len (l.take k)
        rw [List.length_take] at this
        omega
      have hP := put_v t hput hlen
      unfold idV at hP
      rw [← setL_take ht] at hP
      have HPP := Lib.hid hP
      clear hput hbel hP ht hlen
      go_wp2_with (go_at_call 23; refine HPP.out.mono ?_; rintro e w' ⟨v', rfl, hv', hb'⟩)
      go_roundw
      case rel => exact ⟨k + 1, by omega, by go_num, hv', HB.out.trans (hb'.mono HB.out.size)⟩
      case measure => simp [intOf]; omega
    · obtain rfl : k = n := by omega
      clear hput hbel
      go_wp2
      go_ret
      refine ⟨_, rfl, ?_, HB.out⟩
      have := HP.out
      rw [← HN.out, List.take_length] at this
      exact this
theorem setRef_v {v : Value} {l : List Id.I} {w : World} (h : IdsV w v l) (hl : l.length ≤ 900) :
    Calls Tryz.prog 8 #[v] w fun e w' => ∃ v', e = .returned v' ∧ PutV w' v' (Id.setL l) ∧ Below w.heap.size w w' := by
  rcases h with ⟨rfl, p, c, rfl⟩ | ⟨_, b, o, c, rfl, hlt, hat⟩
  · exact setRef_empty p c w
  · exact setRef_at b o c l w hl hlt hat
end Go.Proofs.YtlhkkniebaganaaGreatDoor
