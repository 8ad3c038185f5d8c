/-
  The reference's line, walked.
-/
import Derived.Test.YtlgfickhkejdjaaGreatDoorMSyRefTx
namespace Go.Proofs.YtlgfickhkejdjaaGreatDoor
open Go.RowKit Go.Maps

theorem app_list (a b : ByteArray) : (a ++ b).data.toList = a.data.toList ++ b.data.toList := by rw [ByteArray.data_append, Array.toList_append]
theorem ind_succ (j : Nat) : (⟨(Sy.ind (j + 1)).toArray⟩ : ByteArray) = ⟨(Sy.ind j).toArray⟩ ++ ⟨#[32, 32]⟩ := by
  show _ = _ ++ (⟨([32, 32]).toArray⟩ : ByteArray)
  rw [mk_app]
  congr 2
  unfold Sy.ind
  rw [show 2 * (j + 1) = 2 * j + 2 by omega, ← List.replicate_append_replicate]
  rfl

set_option maxRecDepth 100000 in
set_option maxHeartbeats 4000000 in
theorem refLine_any (d : Nat) (s : ByteArray) (w : World) (hd : d ≤ 1000000000) (hs : s.size ≤ 4000000000) :
    Calls Tryz.prog 59 #[.int .i64 d, .string s] w fun r w' => r = .returned (.string ⟨(Sy.line d s.data.toList).toArray⟩) ∧ Below w.heap.size w w' := by
  have hfin : (⟨(Sy.ind d).toArray⟩ : ByteArray) ++ s ++ ⟨#[10]⟩ = ⟨(Sy.line d s.data.toList).toArray⟩ := by
    unfold Sy.line
    rw [← mk_app, ← mk_app, mk_nm]
  have HF := Lib.hid hfin
  have hsz : ∀ j, (⟨(Sy.ind j).toArray⟩ : ByteArray).size = 2 * j := fun j => by
    show (Sy.ind j).length = _
    unfold Sy.ind
    rw [List.length_replicate]
  have HSZ := Lib.hid hsz
  clear hfin hsz
  go_enter Tryz.func59, Tryz.ntmps59
  go_wp2_with fail
  go_loopg [5, 6] d (fun g s5 s6 wr => ∃ j : Nat, s6 = .int .i64 j ∧ j ≤ d ∧ g = d - j ∧ s5 = .string ⟨(Sy.ind j).toArray⟩ ∧ Hid (Below w.heap.size w wr))
  case atStart => exact ⟨0, rfl, Nat.zero_le _, rfl, rfl, Below.refl _ _⟩
  case round =>
    obtain ⟨j, rfl, hj, rfl, rfl, HB⟩ := hrel
    by_cases hlt : j < d
    · have b3 : (j : Int) < (d : Int) := by omega
      have hs2 := HSZ.out j
      have HI := Lib.hid (ind_succ j)
      obtain ⟨I, hI⟩ : ∃ q : ByteArray, ⟨(Sy.ind j).toArray⟩ = q := ⟨_, rfl⟩
      rw [hI] at hs2 HI ⊢
      clear hI
      have k1 : ¬ 9223372036854775807 < I.size + 2 := by omega
      clear hs2
      go_wp2_with fail
      go_roundg (d - (j + 1))
      case measure => omega
      case rel => exact ⟨j + 1, by go_num, by omega, rfl, by rw [HI.out], HB⟩
    · obtain rfl : j = d := by omega
      have hs2 := HSZ.out j
      obtain ⟨I, hI⟩ : ∃ q : ByteArray, ⟨(Sy.ind j).toArray⟩ = q := ⟨_, rfl⟩
      rw [hI] at hs2 HF ⊢
      clear hI
      have k1 : ¬ 9223372036854775807 < I.size + s.size := by omega
      have k2 : ¬ 9223372036854775807 < I.size + s.size + 1 := by omega
      clear hs2
      go_wp2_with fail
      go_ret
      exact ⟨ret_str HF.out, HB.out⟩
end Go.Proofs.YtlgfickhkejdjaaGreatDoor
