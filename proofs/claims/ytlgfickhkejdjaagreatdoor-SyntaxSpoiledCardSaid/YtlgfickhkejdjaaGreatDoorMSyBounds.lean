/-
  What the width of an integer says of it.
-/
import Derived.Test.YtlgfickhkejdjaaGreatDoorMSyCardBase
namespace Go.Proofs.YtlgfickhkejdjaaGreatDoor
open Go.RowKit

theorem u8_bounds {n : Int} (h : (Lit.int .u8 n).wf = true) : 0 ≤ n ∧ n ≤ 255 := by
  simp [Lit.wf, IntKind.min, IntKind.max, IntKind.signed, IntKind.bits] at h; omega
theorem i64_bounds {n : Int} (h : (Lit.int .i64 n).wf = true) : Tr.I64 n := by
  simp [Lit.wf, IntKind.min, IntKind.max, IntKind.signed, IntKind.bits] at h
  unfold Tr.I64
  omega
end Go.Proofs.YtlgfickhkejdjaaGreatDoor
