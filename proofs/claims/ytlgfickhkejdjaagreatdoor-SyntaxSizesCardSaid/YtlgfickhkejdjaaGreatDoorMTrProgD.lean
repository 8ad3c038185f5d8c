/-
  The program's validStmt, walked: all kinds.
-/
import Derived.Test.YtlgfickhkejdjaaGreatDoorMTrProgCa
import Derived.Test.YtlgfickhkejdjaaGreatDoorMTrProgCb
import Derived.Test.YtlgfickhkejdjaaGreatDoorMTrProgCc
namespace Go.Proofs.YtlgfickhkejdjaaGreatDoor
open Go.RowKit

set_option maxRecDepth 100000 in
set_option maxHeartbeats 40000000 in
theorem validStmt_other (s : Tr.S) (x y z : Value) (w : World) (hkr' : s.kind < 0 ∨ 9 < s.kind) (hE : SynEnv w) (hfit : s.exprs.length ≤ 4611686018427387904) (hkb : BdS s) (hx : SlE w x s.exprs) (hy : SlS w y s.body) (hz : SlS w z s.els) (h1 : HoldsS w Tr.validS s.body) (h2 : HoldsS w Tr.validS s.els) :
    Calls Tryz.prog 52 #[stmtV s x y z] w fun r w' => r = .returned (.bool (Tr.validS s)) ∧ Below w.heap.size w w' := by
  obtain ⟨k, nm, l, b, els⟩ := s
  have hsz : nm.size ≤ maxLen := hkb.name
  have hx' : SlE w x l := hx
  have hy' : SlS w y b := hy
  have hz' : SlS w z els := hz
  have hfit' : l.length ≤ 4611686018427387904 := hfit
  have hk1 := hkb.kind
  obtain ⟨p, c, rfl, _⟩ := hx'.form
  obtain ⟨py, cy, rfl, _⟩ := hy'.form
  obtain ⟨pz, cz, rfl, _⟩ := hz'.form
  obtain ⟨X, hX⟩ : ∃ N, l.length = N := ⟨_, rfl⟩
  obtain ⟨NB, hNB⟩ : ∃ N, b.length = N := ⟨_, rfl⟩
  obtain ⟨NE, hNE⟩ : ∃ N, els.length = N := ⟨_, rfl⟩
  have hlb := hy'.len
  have hle := hz'.len
  unfold maxLen at hlb hle
  rw [hX] at hx' hfit' ⊢
  rw [hNB] at hy' hlb ⊢
  rw [hNE] at hz' hle ⊢
  obtain ⟨qe, hqe⟩ : ∃ q, Tr.validEs l = q := ⟨_, rfl⟩
  obtain ⟨qb1, hq1⟩ : ∃ q, Tr.validSs b = q := ⟨_, rfl⟩
  obtain ⟨qb2, hq2⟩ : ∃ q, Tr.validSs els = q := ⟨_, rfl⟩
  have KV : Hid (∀ W, Below w.heap.size w W → Calls Tryz.prog 38 #[.string nm] W fun e w' => e = .returned (.bool (Tr.varB nm)) ∧ Below W.heap.size W w') := fun W hb => isVariable_any nm W (hE.lex.keep hb) hsz
  have KE : Hid (∀ W, Below w.heap.size w W → Calls Tryz.prog 86 #[.slice p X c, .func (.func 13) #[] #[]] W fun e w' => e = .returned (.bool qe) ∧ Below W.heap.size W w') := fun W hb => by
    have := allE_any Tr.validE l W (holdsE (hE.lex.keep hb) l) _ (hx'.keep hb)
    rw [validEs_fun, hqe] at this; exact this
  have KB1 : Hid (∀ W, Below w.heap.size w W → Calls Tryz.prog 51 #[.slice py NB cy, .func (.func 52) #[] #[]] W fun e w' => e = .returned (.bool qb1) ∧ Below W.heap.size W w') := fun W hb => by
    have := allS_any Tr.validS b W (fun W' j x a1 a2 a3 hb' => h1 W' j x a1 a2 a3 (below_next hb hb')) _ (hy'.keep hb)
    rw [validSs_fun, hq1] at this; exact this
  have KB2 : Hid (∀ W, Below w.heap.size w W → Calls Tryz.prog 51 #[.slice pz NE cz, .func (.func 52) #[] #[]] W fun e w' => e = .returned (.bool qb2) ∧ Below W.heap.size W w') := fun W hb => by
    have := allS_any Tr.validS els W (fun W' j x a1 a2 a3 hb' => h2 W' j x a1 a2 a3 (below_next hb hb')) _ (hz'.keep hb)
    rw [validSs_fun, hq2] at this; exact this
  have hval : Hid (Tr.validS (.mk k nm l b els) = (qe && (Tr.okS k nm X NB NE && (qb1 && qb2)))) := by rw [Tr.validS, hX, hNB, hNE, hqe, hq1, hq2]; show (_ && _ && _ && _) = _; rw [Bool.and_assoc, Bool.and_assoc]
  have hno : Hid (Tr.okS k nm X NB NE = false → Tr.validS (.mk k nm l b els) = false) := fun h => by rw [hval.out, h, Bool.false_and, Bool.and_false]
  have hyes : Hid (Tr.okS k nm X NB NE = true → Tr.validS (.mk k nm l b els) = (qe && (qb1 && qb2))) := fun h => by rw [hval.out, h, Bool.true_and]
  unfold stmtV
  simp only [Tr.S.kind, Tr.S.name]
  have HX := Lib.hid hx'
  have hb1 := below_box w (.cells #[.int .i64 k, .string nm, .slice p X c, .slice py NB cy, .slice pz NE cz] 46)
  have HB1 := Lib.hid hb1
  have HFm := Lib.hid (fun j u hu => cell_keep' hb1 (hE.forms j u hu))
  have HC := Lib.hid (fun j u h => box_cell w #[.int .i64 k, .string nm, .slice p X c, .slice py NB cy, .slice pz NE cz] 46 j u h)
  clear hx hx' hy hy' hz hz' h1 h2 hkb hX hNB hNE hsz hq1 hq2 hqe hE hfit hb1
  have hkr : k < 0 ∨ 9 < k := hkr'
  clear hkr'
  · have hf := Lib.hid (hno.out (okS_other hkr))
    rcases hkr with hkr | hkr
    all_goals
      go_enter Tryz.func52, Tryz.ntmps52
      go_wp2_with fail
      go_ret
      exact ⟨by rw [hf.out]; rfl, HB1.out⟩
theorem validStmt_of (s : Tr.S) (x y z : Value) (w : World) (hE : SynEnv w) (hfit : s.exprs.length ≤ 4611686018427387904) (hkb : BdS s) (hx : SlE w x s.exprs) (hy : SlS w y s.body) (hz : SlS w z s.els) (h1 : HoldsS w Tr.validS s.body) (h2 : HoldsS w Tr.validS s.els) :
    Calls Tryz.prog 52 #[stmtV s x y z] w fun r w' => r = .returned (.bool (Tr.validS s)) ∧ Below w.heap.size w w' := by
  by_cases h : s.kind < 0 ∨ 9 < s.kind
  · exact validStmt_other s x y z w h hE hfit hkb hx hy hz h1 h2
  · by_cases ha : s.kind = 0 ∨ s.kind = 1 ∨ s.kind = 2
    · exact validStmt_a s x y z w ha hE hfit hkb hx hy hz h1 h2
    · by_cases hb : s.kind = 3 ∨ s.kind = 4 ∨ s.kind = 5
      · exact validStmt_b s x y z w hb hE hfit hkb hx hy hz h1 h2
      · exact validStmt_c s x y z w (by omega) hE hfit hkb hx hy hz h1 h2
end Go.Proofs.YtlgfickhkejdjaaGreatDoor
