/-
  Several texts in one: TrProgCc, TrProgD, TrAllN, TrAllM, TrAllC, TrFit.
-/
import Derived.Test.YtdckddkalgnlpaaGreatDoorV21
import Derived.Test.YtdckddkalgnlpaaGreatDoorV22
import Derived.Test.YtdckddkalgnlpaaGreatDoorV5
namespace Go.Proofs.YtdckddkalgnlpaaGreatDoor
open Go.RowKit
set_option maxRecDepth 100000 in
set_option maxHeartbeats 40000000 in
theorem validStmt_c (s : Tr.S) (x y z : Value) (w : World) (hkk : s.kind = 6 ∨ s.kind = 7 ∨ s.kind = 8 ∨ s.kind = 9) (hE : SynEnv w) (hfit : s.exprs.length ≤ 4611686018427387904) (hkb : BdS s) (hx : SlE w x s.exprs) (hy : SlS w y s.body) (hz : SlS w z s.els) (h1 : HoldsS w Tr.validS s.body) (h2 : HoldsS w Tr.validS s.els) :
 Calls Tryz.prog 52 #[stmtV s x y z] w fun r w' => r = .returned (.bool (Tr.validS s)) ∧ Below w.heap.size w w' := by
 obtain ⟨k, nm, l, b, els⟩ := s
 have hsz : nm.size ≤ maxLen := hkb.name
 have hx' : SlE w x l := hx
 have hy' : SlS w y b := hy
 have hz' : SlS w z els := hz
 have hfit' : l.length ≤ 4611686018427387904 := hfit
 have hk1 := hkb.kind
 have hcs : k = 6 ∨ k = 7 ∨ k = 8 ∨ k = 9 := hkk
 clear hkk
 obtain ⟨p, c, rfl, _⟩ := hx'.form
 obtain ⟨py, cy, rfl, _⟩ := hy'.form
 obtain ⟨pz, cz, rfl, _⟩ := hz'.form
 obtain ⟨X, hX⟩ : ∃ N, l.length = N := ⟨_, rfl⟩
 obtain ⟨NB, hNB⟩ : ∃ N, b.length = N := ⟨_, rfl⟩
 obtain ⟨NE, hNE⟩ : ∃ N, els.length = N := ⟨_, rfl⟩
 have hlb := hy'.len
 have hle := hz'.len
 unfold maxLen at hlb hle
 rw [hX] at hx' hfit' ⊢
 rw [hNB] at hy' hlb ⊢
 rw [hNE] at hz' hle ⊢
 obtain ⟨qe, hqe⟩ : ∃ q, Tr.validEs l = q := ⟨_, rfl⟩
 obtain ⟨qb1, hq1⟩ : ∃ q, Tr.validSs b = q := ⟨_, rfl⟩
 obtain ⟨qb2, hq2⟩ : ∃ q, Tr.validSs els = q := ⟨_, rfl⟩
 have KV : Hid (∀ W, Below w.heap.size w W → Calls Tryz.prog 46 #[.string nm] W fun e w' => e = .returned (.bool (Tr.varB nm)) ∧ Below W.heap.size W w') := fun W hb => isVariable_any nm W (hE.lex.keep hb) hsz
 have KE : Hid (∀ W, Below w.heap.size w W → Calls Tryz.prog 101 #[.slice p X c, .func (.func 21) #[] #[]] W fun e w' => e = .returned (.bool qe) ∧ Below W.heap.size W w') := fun W hb => by
  have := allE_any Tr.validE l W (holdsE (hE.lex.keep hb) l) _ (hx'.keep hb)
  rw [validEs_fun, hqe] at this; exact this
 have KB1 : Hid (∀ W, Below w.heap.size w W → Calls Tryz.prog 51 #[.slice py NB cy, .func (.func 52) #[] #[]] W fun e w' => e = .returned (.bool qb1) ∧ Below W.heap.size W w') := fun W hb => by
  have := allS_any Tr.validS b W (fun W' j x a1 a2 a3 hb' => h1 W' j x a1 a2 a3 (below_next hb hb')) _ (hy'.keep hb)
  rw [validSs_fun, hq1] at this; exact this
 have KB2 : Hid (∀ W, Below w.heap.size w W → Calls Tryz.prog 51 #[.slice pz NE cz, .func (.func 52) #[] #[]] W fun e w' => e = .returned (.bool qb2) ∧ Below W.heap.size W w') := fun W hb => by
  have := allS_any Tr.validS els W (fun W' j x a1 a2 a3 hb' => h2 W' j x a1 a2 a3 (below_next hb hb')) _ (hz'.keep hb)
  rw [validSs_fun, hq2] at this; exact this
 have hval : Hid (Tr.validS (.mk k nm l b els) = (qe && (Tr.okS k nm X NB NE && (qb1 && qb2)))) := by rw [Tr.validS, hX, hNB, hNE, hqe, hq1, hq2]; show (_ && _ && _ && _) = _; rw [Bool.and_assoc, Bool.and_assoc]
 have hno : Hid (Tr.okS k nm X NB NE = false → Tr.validS (.mk k nm l b els) = false) := fun h => by rw [hval.out, h, Bool.false_and, Bool.and_false]
 have hyes : Hid (Tr.okS k nm X NB NE = true → Tr.validS (.mk k nm l b els) = (qe && (qb1 && qb2))) := fun h => by rw [hval.out, h, Bool.true_and]
 unfold stmtV
 simp only [Tr.S.kind, Tr.S.name]
 have HX := Lib.hid hx'
 have hb1 := below_box w (.cells #[.int .i64 k, .string nm, .slice p X c, .slice py NB cy, .slice pz NE cz] 94)
 have HB1 := Lib.hid hb1
 have HFm := Lib.hid (fun j u hu => cell_keep' hb1 (hE.forms j u hu))
 have HC := Lib.hid (fun j u h => box_cell w #[.int .i64 k, .string nm, .slice p X c, .slice py NB cy, .slice pz NE cz] 94 j u h)
 clear hx hx' hy hy' hz hz' h1 h2 hkb hX hNB hNE hsz hq1 hq2 hqe hE hfit hb1
 rcases hcs with rfl | rfl | rfl | rfl
 ·skip
  have q0 := HFm.out 30 _ rfl
  have q1 := HFm.out 31 _ rfl
  have q2 := HFm.out 32 _ rfl
  have q3 := HFm.out 33 _ rfl
  have q4 := HFm.out 34 _ rfl
  have hb2 := below_box (w.alloc (.cells #[.int .i64 6, .string nm, .slice p X c, .slice py NB cy, .slice pz NE cz] 94)) (.cells #[.int .i64 1, .int .i64 1, .bool false, .bool false, .bool false] 133)
  have HBW := Lib.hid (below_next HB1.out hb2)
  have g := fun j u h => box_cell (w.alloc (.cells #[.int .i64 6, .string nm, .slice p X c, .slice py NB cy, .slice pz NE cz] 94)) #[.int .i64 1, .int .i64 1, .bool false, .bool false, .bool false] 133 j u h
  have HG := Lib.hid g
  have HC2 := Lib.hid (fun j u h => cell_keep' hb2 (HC.out j u h))
  clear g hb2 hk1
  by_cases hlo : X < 1
  ·skip
   have hf := Lib.hid (hno.out (by rw [okS_6, decide_eq_false (fun h => by omega)]))
   go_enter Tryz.func52, Tryz.ntmps52
   go_wp2_with fail
   go_ret
   exact ⟨by rw [hf.out]; rfl, HBW.out⟩
  ·have hlo' : 1 ≤ X := by omega
   clear hlo
   by_cases hhi : 1 < X
   ·skip
    have hf := Lib.hid (hno.out (by rw [okS_6, decide_eq_false (fun h => by omega)]))
    go_enter Tryz.func52, Tryz.ntmps52
    go_wp2_with fail
    go_ret
    exact ⟨by rw [hf.out]; rfl, HBW.out⟩
   ·have hhi' : X ≤ 1 := by omega
    clear hhi
    cases hE : nm.toList.isEmpty
    ·have hE2 := hE
     have hf := Lib.hid (hno.out (by rw [okS_6, decide_eq_false (fun h => size_nz hE (by omega))]))
     clear hE
     go_enter Tryz.func52, Tryz.ntmps52
     go_wp2_with fail
     go_ret
     exact ⟨by rw [hf.out]; rfl, HBW.out⟩
    ·have hsz0 := Lib.hid (isE_eq hE)
     have c3 := HC2.out 3 _ rfl
     have c4 := HC2.out 4 _ rfl
     by_cases hnb : 0 < NB
     ·have hf := Lib.hid (hno.out (by rw [okS_6, decide_eq_false (fun h => by omega)]))
      go_enter Tryz.func52, Tryz.ntmps52
      go_wp2_with fail
      go_ret
      exact ⟨by rw [hf.out]; rfl, HBW.out⟩
     ·have hnb' : NB ≤ 0 := by omega
      clear hnb
      by_cases hne : 0 < NE
      ·have hf := Lib.hid (hno.out (by rw [okS_6, decide_eq_false (fun h => by omega)]))
       go_enter Tryz.func52, Tryz.ntmps52
       go_wp2_with fail
       go_ret
       exact ⟨by rw [hf.out]; rfl, HBW.out⟩
      ·have hne' : NE ≤ 0 := by omega
       clear hne
       have hf := Lib.hid (hyes.out (by rw [okS_6]; exact decide_eq_true ⟨by omega, hsz0.out, by omega, by omega⟩))
       cases qe
       ·skip
        go_enter Tryz.func52, Tryz.ntmps52
        go_wp2_with fail
        refine (KE.out _ HBW.out).mono ?_
        rintro e w5 ⟨rfl, hb5⟩
        go_wp2_with fail
        go_ret
        exact ⟨by rw [hf.out]; rfl, below_next HBW.out hb5⟩
       ·cases qb1
        ·skip
         go_enter Tryz.func52, Tryz.ntmps52
         go_wp2_with fail
         refine (KE.out _ HBW.out).mono ?_
         rintro e w5 ⟨rfl, hb5⟩
         have r3 := cell_keep' hb5 c3
         have r4 := cell_keep' hb5 c4
         have HB5 := Lib.hid (below_next HBW.out hb5)
         clear hb5
         go_wp2_with fail
         refine (KB1.out _ HB5.out).mono ?_
         rintro e w6 ⟨rfl, hb6⟩
         go_wp2_with fail
         go_ret
         exact ⟨by rw [hf.out]; rfl, below_next HB5.out hb6⟩
        ·skip
         go_enter Tryz.func52, Tryz.ntmps52
         go_wp2_with fail
         refine (KE.out _ HBW.out).mono ?_
         rintro e w5 ⟨rfl, hb5⟩
         have r3 := cell_keep' hb5 c3
         have r4 := cell_keep' hb5 c4
         have HB5 := Lib.hid (below_next HBW.out hb5)
         clear hb5
         go_wp2_with fail
         refine (KB1.out _ HB5.out).mono ?_
         rintro e w6 ⟨rfl, hb6⟩
         have s4 := cell_keep' hb6 r4
         have HB6 := Lib.hid (below_next HB5.out hb6)
         clear hb6
         go_wp2_with fail
         refine (KB2.out _ HB6.out).mono ?_
         rintro e w7 ⟨rfl, hb7⟩
         go_wp2_with fail
         go_ret
         exact ⟨by rw [hf.out]; rfl, below_next HB6.out hb7⟩
 ·skip
  have q0 := HFm.out 35 _ rfl
  have q1 := HFm.out 36 _ rfl
  have q2 := HFm.out 37 _ rfl
  have q3 := HFm.out 38 _ rfl
  have q4 := HFm.out 39 _ rfl
  have hb2 := below_box (w.alloc (.cells #[.int .i64 7, .string nm, .slice p X c, .slice py NB cy, .slice pz NE cz] 94)) (.cells #[.int .i64 2, .int .i64 2, .bool false, .bool false, .bool false] 133)
  have HBW := Lib.hid (below_next HB1.out hb2)
  have g := fun j u h => box_cell (w.alloc (.cells #[.int .i64 7, .string nm, .slice p X c, .slice py NB cy, .slice pz NE cz] 94)) #[.int .i64 2, .int .i64 2, .bool false, .bool false, .bool false] 133 j u h
  have HG := Lib.hid g
  have HC2 := Lib.hid (fun j u h => cell_keep' hb2 (HC.out j u h))
  clear g hb2 hk1
  by_cases hlo : X < 2
  ·skip
   have hf := Lib.hid (hno.out (by rw [okS_7, decide_eq_false (fun h => by omega)]))
   go_enter Tryz.func52, Tryz.ntmps52
   go_wp2_with fail
   go_ret
   exact ⟨by rw [hf.out]; rfl, HBW.out⟩
  ·have hlo' : 2 ≤ X := by omega
   clear hlo
   by_cases hhi : 2 < X
   ·skip
    have hf := Lib.hid (hno.out (by rw [okS_7, decide_eq_false (fun h => by omega)]))
    go_enter Tryz.func52, Tryz.ntmps52
    go_wp2_with fail
    go_ret
    exact ⟨by rw [hf.out]; rfl, HBW.out⟩
   ·have hhi' : X ≤ 2 := by omega
    clear hhi
    cases hE : nm.toList.isEmpty
    ·have hE2 := hE
     have hf := Lib.hid (hno.out (by rw [okS_7, decide_eq_false (fun h => size_nz hE (by omega))]))
     clear hE
     go_enter Tryz.func52, Tryz.ntmps52
     go_wp2_with fail
     go_ret
     exact ⟨by rw [hf.out]; rfl, HBW.out⟩
    ·have hsz0 := Lib.hid (isE_eq hE)
     have c3 := HC2.out 3 _ rfl
     have c4 := HC2.out 4 _ rfl
     by_cases hnb : 0 < NB
     ·have hf := Lib.hid (hno.out (by rw [okS_7, decide_eq_false (fun h => by omega)]))
      go_enter Tryz.func52, Tryz.ntmps52
      go_wp2_with fail
      go_ret
      exact ⟨by rw [hf.out]; rfl, HBW.out⟩
     ·have hnb' : NB ≤ 0 := by omega
      clear hnb
      by_cases hne : 0 < NE
      ·have hf := Lib.hid (hno.out (by rw [okS_7, decide_eq_false (fun h => by omega)]))
       go_enter Tryz.func52, Tryz.ntmps52
       go_wp2_with fail
       go_ret
       exact ⟨by rw [hf.out]; rfl, HBW.out⟩
      ·have hne' : NE ≤ 0 := by omega
       clear hne
       have hf := Lib.hid (hyes.out (by rw [okS_7]; exact decide_eq_true ⟨by omega, hsz0.out, by omega, by omega⟩))
       cases qe
       ·skip
        go_enter Tryz.func52, Tryz.ntmps52
        go_wp2_with fail
        refine (KE.out _ HBW.out).mono ?_
        rintro e w5 ⟨rfl, hb5⟩
        go_wp2_with fail
        go_ret
        exact ⟨by rw [hf.out]; rfl, below_next HBW.out hb5⟩
       ·cases qb1
        ·skip
         go_enter Tryz.func52, Tryz.ntmps52
         go_wp2_with fail
         refine (KE.out _ HBW.out).mono ?_
         rintro e w5 ⟨rfl, hb5⟩
         have r3 := cell_keep' hb5 c3
         have r4 := cell_keep' hb5 c4
         have HB5 := Lib.hid (below_next HBW.out hb5)
         clear hb5
         go_wp2_with fail
         refine (KB1.out _ HB5.out).mono ?_
         rintro e w6 ⟨rfl, hb6⟩
         go_wp2_with fail
         go_ret
         exact ⟨by rw [hf.out]; rfl, below_next HB5.out hb6⟩
        ·skip
         go_enter Tryz.func52, Tryz.ntmps52
         go_wp2_with fail
         refine (KE.out _ HBW.out).mono ?_
         rintro e w5 ⟨rfl, hb5⟩
         have r3 := cell_keep' hb5 c3
         have r4 := cell_keep' hb5 c4
         have HB5 := Lib.hid (below_next HBW.out hb5)
         clear hb5
         go_wp2_with fail
         refine (KB1.out _ HB5.out).mono ?_
         rintro e w6 ⟨rfl, hb6⟩
         have s4 := cell_keep' hb6 r4
         have HB6 := Lib.hid (below_next HB5.out hb6)
         clear hb6
         go_wp2_with fail
         refine (KB2.out _ HB6.out).mono ?_
         rintro e w7 ⟨rfl, hb7⟩
         go_wp2_with fail
         go_ret
         exact ⟨by rw [hf.out]; rfl, below_next HB6.out hb7⟩
 ·skip
  have q0 := HFm.out 40 _ rfl
  have q1 := HFm.out 41 _ rfl
  have q2 := HFm.out 42 _ rfl
  have q3 := HFm.out 43 _ rfl
  have q4 := HFm.out 44 _ rfl
  have hb2 := below_box (w.alloc (.cells #[.int .i64 8, .string nm, .slice p X c, .slice py NB cy, .slice pz NE cz] 94)) (.cells #[.int .i64 2, .int .i64 2, .bool true, .bool false, .bool false] 133)
  have HBW := Lib.hid (below_next HB1.out hb2)
  have g := fun j u h => box_cell (w.alloc (.cells #[.int .i64 8, .string nm, .slice p X c, .slice py NB cy, .slice pz NE cz] 94)) #[.int .i64 2, .int .i64 2, .bool true, .bool false, .bool false] 133 j u h
  have HG := Lib.hid g
  have HC2 := Lib.hid (fun j u h => cell_keep' hb2 (HC.out j u h))
  clear g hb2 hk1
  by_cases hlo : X < 2
  ·skip
   have hf := Lib.hid (hno.out (by rw [okS_8, decide_eq_false (fun h => by omega)]; rfl))
   go_enter Tryz.func52, Tryz.ntmps52
   go_wp2_with fail
   go_ret
   exact ⟨by rw [hf.out]; rfl, HBW.out⟩
  ·have hlo' : 2 ≤ X := by omega
   clear hlo
   by_cases hhi : 2 < X
   ·skip
    have hf := Lib.hid (hno.out (by rw [okS_8, decide_eq_false (fun h => by omega)]; rfl))
    go_enter Tryz.func52, Tryz.ntmps52
    go_wp2_with fail
    go_ret
    exact ⟨by rw [hf.out]; rfl, HBW.out⟩
   ·have hhi' : X ≤ 2 := by omega
    clear hhi
    cases hv : Tr.varB nm
    ·rw [hv] at KV
     have hf := Lib.hid (hno.out (by rw [okS_8, hv, Bool.and_false]))
     clear hv
     go_enter Tryz.func52, Tryz.ntmps52
     go_wp2_with fail
     refine (KV.out _ HBW.out).mono ?_
     rintro e w3 ⟨rfl, hb3⟩
     have c2 := cell_keep' hb3 (HC2.out 2 _ rfl)
     have c3 := cell_keep' hb3 (HC2.out 3 _ rfl)
     have c4 := cell_keep' hb3 (HC2.out 4 _ rfl)
     have g2 := cell_keep' hb3 (HG.out 2 _ rfl)
     have g3 := cell_keep' hb3 (HG.out 3 _ rfl)
     have g4 := cell_keep' hb3 (HG.out 4 _ rfl)
     simp only [World.size_alloc] at g2 g3 g4
     have HB3 := Lib.hid (below_next HBW.out hb3)
     clear hb3
     go_wp2_with fail
     go_ret
     exact ⟨by rw [hf.out]; rfl, HB3.out⟩
    ·rw [hv] at KV
     have hvt := Lib.hid hv
     clear hv
     by_cases hnb : 0 < NB
     ·have hf := Lib.hid (hno.out (by rw [okS_8, decide_eq_false (fun h => by omega)]; rfl))
      go_enter Tryz.func52, Tryz.ntmps52
      go_wp2_with fail
      refine (KV.out _ HBW.out).mono ?_
      rintro e w3 ⟨rfl, hb3⟩
      have c2 := cell_keep' hb3 (HC2.out 2 _ rfl)
      have c3 := cell_keep' hb3 (HC2.out 3 _ rfl)
      have c4 := cell_keep' hb3 (HC2.out 4 _ rfl)
      have g2 := cell_keep' hb3 (HG.out 2 _ rfl)
      have g3 := cell_keep' hb3 (HG.out 3 _ rfl)
      have g4 := cell_keep' hb3 (HG.out 4 _ rfl)
      simp only [World.size_alloc] at g2 g3 g4
      have HB3 := Lib.hid (below_next HBW.out hb3)
      clear hb3
      go_wp2_with fail
      go_ret
      exact ⟨by rw [hf.out]; rfl, HB3.out⟩
     ·have hnb' : NB ≤ 0 := by omega
      clear hnb
      by_cases hne : 0 < NE
      ·have hf := Lib.hid (hno.out (by rw [okS_8, decide_eq_false (fun h => by omega)]; rfl))
       go_enter Tryz.func52, Tryz.ntmps52
       go_wp2_with fail
       refine (KV.out _ HBW.out).mono ?_
       rintro e w3 ⟨rfl, hb3⟩
       have c2 := cell_keep' hb3 (HC2.out 2 _ rfl)
       have c3 := cell_keep' hb3 (HC2.out 3 _ rfl)
       have c4 := cell_keep' hb3 (HC2.out 4 _ rfl)
       have g2 := cell_keep' hb3 (HG.out 2 _ rfl)
       have g3 := cell_keep' hb3 (HG.out 3 _ rfl)
       have g4 := cell_keep' hb3 (HG.out 4 _ rfl)
       simp only [World.size_alloc] at g2 g3 g4
       have HB3 := Lib.hid (below_next HBW.out hb3)
       clear hb3
       go_wp2_with fail
       go_ret
       exact ⟨by rw [hf.out]; rfl, HB3.out⟩
      ·have hne' : NE ≤ 0 := by omega
       clear hne
       have hf := Lib.hid (hyes.out (by rw [okS_8, hvt.out, Bool.and_true]; exact decide_eq_true ⟨by omega, by omega, by omega⟩))
       cases qe
       ·skip
        go_enter Tryz.func52, Tryz.ntmps52
        go_wp2_with fail
        refine (KV.out _ HBW.out).mono ?_
        rintro e w3 ⟨rfl, hb3⟩
        have c2 := cell_keep' hb3 (HC2.out 2 _ rfl)
        have c3 := cell_keep' hb3 (HC2.out 3 _ rfl)
        have c4 := cell_keep' hb3 (HC2.out 4 _ rfl)
        have g2 := cell_keep' hb3 (HG.out 2 _ rfl)
        have g3 := cell_keep' hb3 (HG.out 3 _ rfl)
        have g4 := cell_keep' hb3 (HG.out 4 _ rfl)
        simp only [World.size_alloc] at g2 g3 g4
        have HB3 := Lib.hid (below_next HBW.out hb3)
        clear hb3
        go_wp2_with fail
        refine (KE.out _ HB3.out).mono ?_
        rintro e w5 ⟨rfl, hb5⟩
        go_wp2_with fail
        go_ret
        exact ⟨by rw [hf.out]; rfl, below_next HB3.out hb5⟩
       ·cases qb1
        ·skip
         go_enter Tryz.func52, Tryz.ntmps52
         go_wp2_with fail
         refine (KV.out _ HBW.out).mono ?_
         rintro e w3 ⟨rfl, hb3⟩
         have c2 := cell_keep' hb3 (HC2.out 2 _ rfl)
         have c3 := cell_keep' hb3 (HC2.out 3 _ rfl)
         have c4 := cell_keep' hb3 (HC2.out 4 _ rfl)
         have g2 := cell_keep' hb3 (HG.out 2 _ rfl)
         have g3 := cell_keep' hb3 (HG.out 3 _ rfl)
         have g4 := cell_keep' hb3 (HG.out 4 _ rfl)
         simp only [World.size_alloc] at g2 g3 g4
         have HB3 := Lib.hid (below_next HBW.out hb3)
         clear hb3
         go_wp2_with fail
         refine (KE.out _ HB3.out).mono ?_
         rintro e w5 ⟨rfl, hb5⟩
         have r3 := cell_keep' hb5 c3
         have r4 := cell_keep' hb5 c4
         have HB5 := Lib.hid (below_next HB3.out hb5)
         clear hb5
         go_wp2_with fail
         refine (KB1.out _ HB5.out).mono ?_
         rintro e w6 ⟨rfl, hb6⟩
         go_wp2_with fail
         go_ret
         exact ⟨by rw [hf.out]; rfl, below_next HB5.out hb6⟩
        ·skip
         go_enter Tryz.func52, Tryz.ntmps52
         go_wp2_with fail
         refine (KV.out _ HBW.out).mono ?_
         rintro e w3 ⟨rfl, hb3⟩
         have c2 := cell_keep' hb3 (HC2.out 2 _ rfl)
         have c3 := cell_keep' hb3 (HC2.out 3 _ rfl)
         have c4 := cell_keep' hb3 (HC2.out 4 _ rfl)
         have g2 := cell_keep' hb3 (HG.out 2 _ rfl)
         have g3 := cell_keep' hb3 (HG.out 3 _ rfl)
         have g4 := cell_keep' hb3 (HG.out 4 _ rfl)
         simp only [World.size_alloc] at g2 g3 g4
         have HB3 := Lib.hid (below_next HBW.out hb3)
         clear hb3
         go_wp2_with fail
         refine (KE.out _ HB3.out).mono ?_
         rintro e w5 ⟨rfl, hb5⟩
         have r3 := cell_keep' hb5 c3
         have r4 := cell_keep' hb5 c4
         have HB5 := Lib.hid (below_next HB3.out hb5)
         clear hb5
         go_wp2_with fail
         refine (KB1.out _ HB5.out).mono ?_
         rintro e w6 ⟨rfl, hb6⟩
         have s4 := cell_keep' hb6 r4
         have HB6 := Lib.hid (below_next HB5.out hb6)
         clear hb6
         go_wp2_with fail
         refine (KB2.out _ HB6.out).mono ?_
         rintro e w7 ⟨rfl, hb7⟩
         go_wp2_with fail
         go_ret
         exact ⟨by rw [hf.out]; rfl, below_next HB6.out hb7⟩
 ·skip
  have q0 := HFm.out 45 _ rfl
  have q1 := HFm.out 46 _ rfl
  have q2 := HFm.out 47 _ rfl
  have q3 := HFm.out 48 _ rfl
  have q4 := HFm.out 49 _ rfl
  have hb2 := below_box (w.alloc (.cells #[.int .i64 9, .string nm, .slice p X c, .slice py NB cy, .slice pz NE cz] 94)) (.cells #[.int .i64 0, .int .i64 0, .bool false, .bool false, .bool false] 133)
  have HBW := Lib.hid (below_next HB1.out hb2)
  have g := fun j u h => box_cell (w.alloc (.cells #[.int .i64 9, .string nm, .slice p X c, .slice py NB cy, .slice pz NE cz] 94)) #[.int .i64 0, .int .i64 0, .bool false, .bool false, .bool false] 133 j u h
  have HG := Lib.hid g
  have HC2 := Lib.hid (fun j u h => cell_keep' hb2 (HC.out j u h))
  clear g hb2 hk1
  by_cases hhi : 0 < X
  ·skip
   have hf := Lib.hid (hno.out (by rw [okS_9, decide_eq_false (fun h => by omega)]))
   go_enter Tryz.func52, Tryz.ntmps52
   go_wp2_with fail
   go_ret
   exact ⟨by rw [hf.out]; rfl, HBW.out⟩
  ·have hhi' : X ≤ 0 := by omega
   clear hhi
   cases hE : nm.toList.isEmpty
   ·have hE2 := hE
    have hf := Lib.hid (hno.out (by rw [okS_9, decide_eq_false (fun h => size_nz hE (by omega))]))
    clear hE
    go_enter Tryz.func52, Tryz.ntmps52
    go_wp2_with fail
    go_ret
    exact ⟨by rw [hf.out]; rfl, HBW.out⟩
   ·have hsz0 := Lib.hid (isE_eq hE)
    have c3 := HC2.out 3 _ rfl
    have c4 := HC2.out 4 _ rfl
    by_cases hnb : 0 < NB
    ·have hf := Lib.hid (hno.out (by rw [okS_9, decide_eq_false (fun h => by omega)]))
     go_enter Tryz.func52, Tryz.ntmps52
     go_wp2_with fail
     go_ret
     exact ⟨by rw [hf.out]; rfl, HBW.out⟩
    ·have hnb' : NB ≤ 0 := by omega
     clear hnb
     by_cases hne : 0 < NE
     ·have hf := Lib.hid (hno.out (by rw [okS_9, decide_eq_false (fun h => by omega)]))
      go_enter Tryz.func52, Tryz.ntmps52
      go_wp2_with fail
      go_ret
      exact ⟨by rw [hf.out]; rfl, HBW.out⟩
     ·have hne' : NE ≤ 0 := by omega
      clear hne
      have hf := Lib.hid (hyes.out (by rw [okS_9]; exact decide_eq_true ⟨by omega, hsz0.out, by omega, by omega⟩))
      cases qe
      ·skip
       go_enter Tryz.func52, Tryz.ntmps52
       go_wp2_with fail
       refine (KE.out _ HBW.out).mono ?_
       rintro e w5 ⟨rfl, hb5⟩
       go_wp2_with fail
       go_ret
       exact ⟨by rw [hf.out]; rfl, below_next HBW.out hb5⟩
      ·cases qb1
       ·skip
        go_enter Tryz.func52, Tryz.ntmps52
        go_wp2_with fail
        refine (KE.out _ HBW.out).mono ?_
        rintro e w5 ⟨rfl, hb5⟩
        have r3 := cell_keep' hb5 c3
        have r4 := cell_keep' hb5 c4
        have HB5 := Lib.hid (below_next HBW.out hb5)
        clear hb5
        go_wp2_with fail
        refine (KB1.out _ HB5.out).mono ?_
        rintro e w6 ⟨rfl, hb6⟩
        go_wp2_with fail
        go_ret
        exact ⟨by rw [hf.out]; rfl, below_next HB5.out hb6⟩
       ·skip
        go_enter Tryz.func52, Tryz.ntmps52
        go_wp2_with fail
        refine (KE.out _ HBW.out).mono ?_
        rintro e w5 ⟨rfl, hb5⟩
        have r3 := cell_keep' hb5 c3
        have r4 := cell_keep' hb5 c4
        have HB5 := Lib.hid (below_next HBW.out hb5)
        clear hb5
        go_wp2_with fail
        refine (KB1.out _ HB5.out).mono ?_
        rintro e w6 ⟨rfl, hb6⟩
        have s4 := cell_keep' hb6 r4
        have HB6 := Lib.hid (below_next HB5.out hb6)
        clear hb6
        go_wp2_with fail
        refine (KB2.out _ HB6.out).mono ?_
        rintro e w7 ⟨rfl, hb7⟩
        go_wp2_with fail
        go_ret
        exact ⟨by rw [hf.out]; rfl, below_next HB6.out hb7⟩
end Go.Proofs.YtdckddkalgnlpaaGreatDoor
namespace Go.Proofs.YtdckddkalgnlpaaGreatDoor
open Go.RowKit
set_option maxRecDepth 100000 in
set_option maxHeartbeats 40000000 in
theorem validStmt_other (s : Tr.S) (x y z : Value) (w : World) (hkr' : s.kind < 0 ∨ 9 < s.kind) (hE : SynEnv w) (hfit : s.exprs.length ≤ 4611686018427387904) (hkb : BdS s) (hx : SlE w x s.exprs) (hy : SlS w y s.body) (hz : SlS w z s.els) (h1 : HoldsS w Tr.validS s.body) (h2 : HoldsS w Tr.validS s.els) :
 Calls Tryz.prog 52 #[stmtV s x y z] w fun r w' => r = .returned (.bool (Tr.validS s)) ∧ Below w.heap.size w w' := by
 obtain ⟨k, nm, l, b, els⟩ := s
 have hsz : nm.size ≤ maxLen := hkb.name
 have hx' : SlE w x l := hx
 have hy' : SlS w y b := hy
 have hz' : SlS w z els := hz
 have hfit' : l.length ≤ 4611686018427387904 := hfit
 have hk1 := hkb.kind
 obtain ⟨p, c, rfl, _⟩ := hx'.form
 obtain ⟨py, cy, rfl, _⟩ := hy'.form
 obtain ⟨pz, cz, rfl, _⟩ := hz'.form
 obtain ⟨X, hX⟩ : ∃ N, l.length = N := ⟨_, rfl⟩
 obtain ⟨NB, hNB⟩ : ∃ N, b.length = N := ⟨_, rfl⟩
 obtain ⟨NE, hNE⟩ : ∃ N, els.length = N := ⟨_, rfl⟩
 have hlb := hy'.len
 have hle := hz'.len
 unfold maxLen at hlb hle
 rw [hX] at hx' hfit' ⊢
 rw [hNB] at hy' hlb ⊢
 rw [hNE] at hz' hle ⊢
 obtain ⟨qe, hqe⟩ : ∃ q, Tr.validEs l = q := ⟨_, rfl⟩
 obtain ⟨qb1, hq1⟩ : ∃ q, Tr.validSs b = q := ⟨_, rfl⟩
 obtain ⟨qb2, hq2⟩ : ∃ q, Tr.validSs els = q := ⟨_, rfl⟩
 have KV : Hid (∀ W, Below w.heap.size w W → Calls Tryz.prog 46 #[.string nm] W fun e w' => e = .returned (.bool (Tr.varB nm)) ∧ Below W.heap.size W w') := fun W hb => isVariable_any nm W (hE.lex.keep hb) hsz
 have KE : Hid (∀ W, Below w.heap.size w W → Calls Tryz.prog 101 #[.slice p X c, .func (.func 21) #[] #[]] W fun e w' => e = .returned (.bool qe) ∧ Below W.heap.size W w') := fun W hb => by
  have := allE_any Tr.validE l W (holdsE (hE.lex.keep hb) l) _ (hx'.keep hb)
  rw [validEs_fun, hqe] at this; exact this
 have KB1 : Hid (∀ W, Below w.heap.size w W → Calls Tryz.prog 51 #[.slice py NB cy, .func (.func 52) #[] #[]] W fun e w' => e = .returned (.bool qb1) ∧ Below W.heap.size W w') := fun W hb => by
  have := allS_any Tr.validS b W (fun W' j x a1 a2 a3 hb' => h1 W' j x a1 a2 a3 (below_next hb hb')) _ (hy'.keep hb)
  rw [validSs_fun, hq1] at this; exact this
 have KB2 : Hid (∀ W, Below w.heap.size w W → Calls Tryz.prog 51 #[.slice pz NE cz, .func (.func 52) #[] #[]] W fun e w' => e = .returned (.bool qb2) ∧ Below W.heap.size W w') := fun W hb => by
  have := allS_any Tr.validS els W (fun W' j x a1 a2 a3 hb' => h2 W' j x a1 a2 a3 (below_next hb hb')) _ (hz'.keep hb)
  rw [validSs_fun, hq2] at this; exact this
 have hval : Hid (Tr.validS (.mk k nm l b els) = (qe && (Tr.okS k nm X NB NE && (qb1 && qb2)))) := by rw [Tr.validS, hX, hNB, hNE, hqe, hq1, hq2]; show (_ && _ && _ && _) = _; rw [Bool.and_assoc, Bool.and_assoc]
 have hno : Hid (Tr.okS k nm X NB NE = false → Tr.validS (.mk k nm l b els) = false) := fun h => by rw [hval.out, h, Bool.false_and, Bool.and_false]
 have hyes : Hid (Tr.okS k nm X NB NE = true → Tr.validS (.mk k nm l b els) = (qe && (qb1 && qb2))) := fun h => by rw [hval.out, h, Bool.true_and]
 unfold stmtV
 simp only [Tr.S.kind, Tr.S.name]
 have HX := Lib.hid hx'
 have hb1 := below_box w (.cells #[.int .i64 k, .string nm, .slice p X c, .slice py NB cy, .slice pz NE cz] 94)
 have HB1 := Lib.hid hb1
 have HFm := Lib.hid (fun j u hu => cell_keep' hb1 (hE.forms j u hu))
 have HC := Lib.hid (fun j u h => box_cell w #[.int .i64 k, .string nm, .slice p X c, .slice py NB cy, .slice pz NE cz] 94 j u h)
 clear hx hx' hy hy' hz hz' h1 h2 hkb hX hNB hNE hsz hq1 hq2 hqe hE hfit hb1
 have hkr : k < 0 ∨ 9 < k := hkr'
 clear hkr'
 ·have hf := Lib.hid (hno.out (okS_other hkr))
  rcases hkr with hkr | hkr
  all_goals
   go_enter Tryz.func52, Tryz.ntmps52
   go_wp2_with fail
   go_ret
   exact ⟨by rw [hf.out]; rfl, HB1.out⟩
theorem validStmt_of (s : Tr.S) (x y z : Value) (w : World) (hE : SynEnv w) (hfit : s.exprs.length ≤ 4611686018427387904) (hkb : BdS s) (hx : SlE w x s.exprs) (hy : SlS w y s.body) (hz : SlS w z s.els) (h1 : HoldsS w Tr.validS s.body) (h2 : HoldsS w Tr.validS s.els) :
 Calls Tryz.prog 52 #[stmtV s x y z] w fun r w' => r = .returned (.bool (Tr.validS s)) ∧ Below w.heap.size w w' := by
 by_cases h : s.kind < 0 ∨ 9 < s.kind
 ·exact validStmt_other s x y z w h hE hfit hkb hx hy hz h1 h2
 ·by_cases ha : s.kind = 0 ∨ s.kind = 1 ∨ s.kind = 2
  ·exact validStmt_a s x y z w ha hE hfit hkb hx hy hz h1 h2
  ·by_cases hb : s.kind = 3 ∨ s.kind = 4 ∨ s.kind = 5
   ·exact validStmt_b s x y z w hb hE hfit hkb hx hy hz h1 h2
   ·exact validStmt_c s x y z w (by omega) hE hfit hkb hx hy hz h1 h2
end Go.Proofs.YtdckddkalgnlpaaGreatDoor
namespace Go.Proofs.YtdckddkalgnlpaaGreatDoor
open Go.RowKit
def ReadN (_W : World) (x : ByteArray) : Prop := x.size ≤ maxLen
theorem ReadN.keep {w w' : World} {x : ByteArray} (h : ReadN w x ) (_hb : Below w.heap.size w w') : ReadN w' x  := h
def HoldsN (w : World) (q : ByteArray → Bool) (l : List ByteArray) : Prop :=
 ∀ (W : World) (j : Nat) (x : ByteArray), Below w.heap.size w W → l[j]? = some x → ReadN W x  → Calls Tryz.prog 46 #[.string x] W fun e w' => e = .returned (.bool (q x)) ∧ Below W.heap.size W w'
set_option maxRecDepth 100000 in
set_option maxHeartbeats 2000000 in
theorem all1N_any (q : ByteArray → Bool) (w0 : World) (l : List ByteArray) (H : HoldsN w0 q l) (B : Nat) (W : World) (hW : Below w0.heap.size w0 W) (hB : W.cell? ⟨B, 0, none⟩ = some (.func (.func 46) #[] #[]))
 (j : Nat) (x : ByteArray) (hx : l[j]? = some x) (h : ReadN W x ) :
 Calls Tryz.prog 98 #[.string x, .pointer (some ⟨B, 0, none⟩)] W fun e w' => e = .returned (.bool (!q x)) ∧ Below W.heap.size W w' := by
 have HR := Lib.hid h
 have hcall := H _ j x hW hx HR.out
 have HC := Lib.hid hcall
 clear h hcall H
 go_enter Tryz.func98, Tryz.ntmps98
 go_wp2_with fail
 refine HC.out.mono ?_
 rintro e w2 ⟨rfl, hb2⟩
 go_wp2_with fail
 go_ret
 exact ⟨rfl, hb2⟩
set_option maxRecDepth 100000 in
set_option maxHeartbeats 2000000 in
theorem indexN_any (q : ByteArray → Bool) (w0 : World) (l : List ByteArray) (H : HoldsN w0 q l) (B : Nat) (W : World) (hW : Below w0.heap.size w0 W) (hB : W.cell? ⟨B, 0, none⟩ = some (.func (.func 46) #[] #[])) (v : Value) (hS : SlStr W v l) :
 Calls Tryz.prog 149 #[v, .func (.func 98) #[] #[.pointer (some ⟨B, 0, none⟩)]] W (IdxPost (!l.all q) W) := by
 obtain ⟨p, c, rfl⟩ := hS.form
 have hll := hS.len
 unfold maxLen at hll
 obtain ⟨N, hN⟩ : ∃ N, l.length = N := ⟨_, rfl⟩
 rw [hN] at hS hll ⊢
 have HS := Lib.hid hS
 have HN := Lib.hid hN
 have HH := Lib.hid H
 have HW := Lib.hid hW
 clear hS hN H hW
 go_enter Tryz.func149, Tryz.ntmps149
 go_wp2
 go_loopw [8] (fun s8 wr => ∃ j : Nat, s8 = .int .i64 j ∧ j ≤ N ∧ (∀ t x, t < j → l[t]? = some x → q x = true) ∧ Below W.heap.size W wr) (fun s8 _ => N - (intOf s8).toNat)
 case atStart => exact ⟨0, rfl, Nat.zero_le _, fun t x ht => by omega, Below.refl _ _⟩
 case round =>
  obtain ⟨j, rfl, hj, hall, hbr⟩ := hrel
  have HA := Lib.hid hall
  have HBR := Lib.hid hbr
  have HB1 := Lib.hid (cell_keep' hbr hB)
  clear hall
  by_cases hlt : j < N
  ·obtain ⟨x, hx⟩ : ∃ x, l[j]? = some x := ⟨_, List.getElem?_eq_getElem (by rw [HN.out]; exact hlt)⟩
   obtain ⟨p2, c2, e2, _, _, hcell⟩ := HS.out.keep hbr
   cases e2
   obtain ⟨hsz, b, oo, rfl, _, hc⟩ := hcell j x hx
   have hr : ReadN wr x := hsz
   clear hcell
   have hcall := all1N_any q w0 l HH.out B wr (below_next HW.out HBR.out) HB1.out j x  hx hr
   have HX := Lib.hid hx
   clear hx hr hbr hsz
   cases hv : q x
   ·rw [hv] at hcall
    have HCL := Lib.hid hcall
    have hf := Lib.hid (all_no HX.out hv)
    clear hcall hv
    go_wp2_with fail
    refine HCL.out.mono ?_
    rintro e w2 ⟨rfl, hb2⟩
    go_wp2_with fail
    go_ret
    exact ⟨(j : Int), rfl, by rw [hf.out]; simp, below_next HBR.out hb2⟩
   ·rw [hv] at hcall
    have HCL := Lib.hid hcall
    have HV := Lib.hid hv
    clear hcall hv
    go_wp2_with fail
    refine HCL.out.mono ?_
    rintro e w2 ⟨rfl, hb2⟩
    go_wp2_with fail
    go_roundw
    case rel =>
     refine ⟨j + 1, by go_num, by omega, fun t y ht hty => ?_, below_next HBR.out hb2⟩
     by_cases e : t = j
     ·subst e; rw [HX.out] at hty; cases hty; exact HV.out
     ·exact HA.out t y (by omega) hty
    case measure => simp [intOf]; omega
  ·have hf := Lib.hid (all_get HN.out (p := q) (fun t x ht => HA.out t x (by omega)))
   clear hbr
   go_wp2_with fail
   go_ret
   exact ⟨-1, rfl, by rw [hf.out]; simp, HBR.out⟩
set_option maxHeartbeats 1000000 in
theorem containsN_any (q : ByteArray → Bool) (w0 : World) (l : List ByteArray) (H : HoldsN w0 q l) (B : Nat) (W : World) (hW : Below w0.heap.size w0 W) (hB : W.cell? ⟨B, 0, none⟩ = some (.func (.func 46) #[] #[])) (v : Value) (hS : SlStr W v l) :
 Calls Tryz.prog 97 #[v, .func (.func 98) #[] #[.pointer (some ⟨B, 0, none⟩)]] W fun e w' => e = .returned (.bool (!l.all q)) ∧ Below W.heap.size W w' := by
 have HI := Lib.hid (indexN_any q w0 l H B W hW hB v hS)
 obtain ⟨p, c, rfl⟩ := hS.form
 clear H hB hS hW
 go_enter Tryz.func97, Tryz.ntmps97
 go_wp2_with fail
 refine HI.out.mono ?_
 rintro e w2 ⟨i, rfl, hi, hb⟩
 have HII := Lib.hid hi
 clear hi
 go_wp2_with fail
 go_ret
 exact ⟨ret_bool HII.out, hb⟩
set_option maxHeartbeats 1000000 in
theorem allN_any (q : ByteArray → Bool) (l : List ByteArray) (W : World) (H : HoldsN W q l) (v : Value) (hS : SlStr W v l) :
 Calls Tryz.prog 50 #[v, .func (.func 46) #[] #[]] W fun e w' => e = .returned (.bool (l.all q)) ∧ Below W.heap.size W w' := by
 have hbx := below_box W (.cells #[.func (.func 46) #[] #[]] 30)
 have HI := Lib.hid (containsN_any q W l H W.heap.size _ hbx (box_cell W #[.func (.func 46) #[] #[]] 30 0 _ rfl) v (hS.keep hbx))
 have HBX := Lib.hid hbx
 obtain ⟨p, c, rfl⟩ := hS.form
 clear H hS hbx
 go_enter Tryz.func50, Tryz.ntmps50
 go_wp2_with fail
 refine HI.out.mono ?_
 rintro e w2 ⟨rfl, hb⟩
 go_wp2_with fail
 go_ret
 exact ⟨rfl, HBX.out.trans (hb.mono HBX.out.size)⟩
end Go.Proofs.YtdckddkalgnlpaaGreatDoor
namespace Go.Proofs.YtdckddkalgnlpaaGreatDoor
open Go.RowKit
def ReadM (W : World) (x : Tr.M) (a1 a2 : Value) : Prop := x.name.size ≤ maxLen ∧ SlStr W a1 x.params ∧ SlS W a2 x.body
theorem ReadM.keep {w w' : World} {x : Tr.M} {a1 a2 : Value} (h : ReadM w x a1 a2) (hb : Below w.heap.size w w') : ReadM w' x a1 a2 := ⟨h.1, h.2.1.keep hb, h.2.2.keep hb⟩
def HoldsM (w : World) (q : Tr.M → Bool) (l : List Tr.M) : Prop :=
 ∀ (W : World) (j : Nat) (x : Tr.M) (a1 a2 : Value), Below w.heap.size w W → l[j]? = some x → ReadM W x a1 a2 → Calls Tryz.prog 49 #[methV x a1 a2] W fun e w' => e = .returned (.bool (q x)) ∧ Below W.heap.size W w'
set_option maxRecDepth 100000 in
set_option maxHeartbeats 2000000 in
theorem all1M_any (q : Tr.M → Bool) (w0 : World) (l : List Tr.M) (H : HoldsM w0 q l) (B : Nat) (W : World) (hW : Below w0.heap.size w0 W) (hB : W.cell? ⟨B, 0, none⟩ = some (.func (.func 49) #[] #[]))
 (j : Nat) (x : Tr.M) (a1 a2 : Value) (hx : l[j]? = some x) (h : ReadM W x a1 a2) :
 Calls Tryz.prog 105 #[methV x a1 a2, .pointer (some ⟨B, 0, none⟩)] W fun e w' => e = .returned (.bool (!q x)) ∧ Below W.heap.size W w' := by
 have HR := Lib.hid h
 obtain ⟨pa, ca, rfl⟩ := h.2.1.form
 obtain ⟨pb, cb, rfl, _⟩ := h.2.2.form
 obtain ⟨AN, hAN⟩ : ∃ N, x.params.length = N := ⟨_, rfl⟩
 obtain ⟨BN, hBN⟩ : ∃ N, x.body.length = N := ⟨_, rfl⟩
 rw [hAN, hBN]
 rw [hAN, hBN] at HR
 unfold methV
 have hbx := below_box W (.cells #[.string x.name, .slice pa AN ca, .slice pb BN cb] 64)
 have hcall := H _ j x _ _ (below_next hW hbx) hx (HR.out.keep hbx)
 unfold methV at hcall
 have HC := Lib.hid hcall
 have HBX := Lib.hid hbx
 have hB' := cell_keep' hbx hB
 clear h hcall hbx H
 go_enter Tryz.func105, Tryz.ntmps105
 go_wp2_with fail
 refine HC.out.mono ?_
 rintro e w2 ⟨rfl, hb2⟩
 go_wp2_with fail
 go_ret
 exact ⟨rfl, HBX.out.trans (hb2.mono HBX.out.size)⟩
set_option maxRecDepth 100000 in
set_option maxHeartbeats 2000000 in
theorem indexM_any (q : Tr.M → Bool) (w0 : World) (l : List Tr.M) (H : HoldsM w0 q l) (B : Nat) (W : World) (hW : Below w0.heap.size w0 W) (hB : W.cell? ⟨B, 0, none⟩ = some (.func (.func 49) #[] #[])) (v : Value) (hS : SlM W v l) :
 Calls Tryz.prog 154 #[v, .func (.func 105) #[] #[.pointer (some ⟨B, 0, none⟩)]] W (IdxPost (!l.all q) W) := by
 obtain ⟨p, c, rfl⟩ := hS.form
 have hll := hS.len
 unfold maxLen at hll
 obtain ⟨N, hN⟩ : ∃ N, l.length = N := ⟨_, rfl⟩
 rw [hN] at hS hll ⊢
 have HS := Lib.hid hS
 have HN := Lib.hid hN
 have HH := Lib.hid H
 have HW := Lib.hid hW
 clear hS hN H hW
 go_enter Tryz.func154, Tryz.ntmps154
 go_wp2
 go_loopw [8] (fun s8 wr => ∃ j : Nat, s8 = .int .i64 j ∧ j ≤ N ∧ (∀ t x, t < j → l[t]? = some x → q x = true) ∧ Below W.heap.size W wr) (fun s8 _ => N - (intOf s8).toNat)
 case atStart => exact ⟨0, rfl, Nat.zero_le _, fun t x ht => by omega, Below.refl _ _⟩
 case round =>
  obtain ⟨j, rfl, hj, hall, hbr⟩ := hrel
  have HA := Lib.hid hall
  have HBR := Lib.hid hbr
  have HB1 := Lib.hid (cell_keep' hbr hB)
  clear hall
  by_cases hlt : j < N
  ·obtain ⟨x, hx⟩ : ∃ x, l[j]? = some x := ⟨_, List.getElem?_eq_getElem (by rw [HN.out]; exact hlt)⟩
   obtain ⟨b, oo, a1, a2, rfl, _, hc, hnm, hsp, hsb⟩ := (HS.out.keep hbr).get hx
   obtain ⟨x0, x1, x2⟩ := hc
   have hr : ReadM wr x a1 a2 := ⟨hnm, hsp, hsb⟩
   have hcall := all1M_any q w0 l HH.out B wr (below_next HW.out HBR.out) HB1.out j x _ _ hx hr
   unfold methV at hcall
   have HX := Lib.hid hx
   clear hx hr hbr hnm hsp hsb
   cases hv : q x
   ·rw [hv] at hcall
    have HCL := Lib.hid hcall
    have hf := Lib.hid (all_no HX.out hv)
    clear hcall hv
    go_wp2_with fail
    refine HCL.out.mono ?_
    rintro e w2 ⟨rfl, hb2⟩
    go_wp2_with fail
    go_ret
    exact ⟨(j : Int), rfl, by rw [hf.out]; simp, below_next HBR.out hb2⟩
   ·rw [hv] at hcall
    have HCL := Lib.hid hcall
    have HV := Lib.hid hv
    clear hcall hv
    go_wp2_with fail
    refine HCL.out.mono ?_
    rintro e w2 ⟨rfl, hb2⟩
    go_wp2_with fail
    go_roundw
    case rel =>
     refine ⟨j + 1, by go_num, by omega, fun t y ht hty => ?_, below_next HBR.out hb2⟩
     by_cases e : t = j
     ·subst e; rw [HX.out] at hty; cases hty; exact HV.out
     ·exact HA.out t y (by omega) hty
    case measure => simp [intOf]; omega
  ·have hf := Lib.hid (all_get HN.out (p := q) (fun t x ht => HA.out t x (by omega)))
   clear hbr
   go_wp2_with fail
   go_ret
   exact ⟨-1, rfl, by rw [hf.out]; simp, HBR.out⟩
set_option maxHeartbeats 1000000 in
theorem containsM_any (q : Tr.M → Bool) (w0 : World) (l : List Tr.M) (H : HoldsM w0 q l) (B : Nat) (W : World) (hW : Below w0.heap.size w0 W) (hB : W.cell? ⟨B, 0, none⟩ = some (.func (.func 49) #[] #[])) (v : Value) (hS : SlM W v l) :
 Calls Tryz.prog 104 #[v, .func (.func 105) #[] #[.pointer (some ⟨B, 0, none⟩)]] W fun e w' => e = .returned (.bool (!l.all q)) ∧ Below W.heap.size W w' := by
 have HI := Lib.hid (indexM_any q w0 l H B W hW hB v hS)
 obtain ⟨p, c, rfl⟩ := hS.form
 clear H hB hS hW
 go_enter Tryz.func104, Tryz.ntmps104
 go_wp2_with fail
 refine HI.out.mono ?_
 rintro e w2 ⟨i, rfl, hi, hb⟩
 have HII := Lib.hid hi
 clear hi
 go_wp2_with fail
 go_ret
 exact ⟨ret_bool HII.out, hb⟩
set_option maxHeartbeats 1000000 in
theorem allM_any (q : Tr.M → Bool) (l : List Tr.M) (W : World) (H : HoldsM W q l) (v : Value) (hS : SlM W v l) :
 Calls Tryz.prog 55 #[v, .func (.func 49) #[] #[]] W fun e w' => e = .returned (.bool (l.all q)) ∧ Below W.heap.size W w' := by
 have hbx := below_box W (.cells #[.func (.func 49) #[] #[]] 96)
 have HI := Lib.hid (containsM_any q W l H W.heap.size _ hbx (box_cell W #[.func (.func 49) #[] #[]] 96 0 _ rfl) v (hS.keep hbx))
 have HBX := Lib.hid hbx
 obtain ⟨p, c, rfl⟩ := hS.form
 clear H hS hbx
 go_enter Tryz.func55, Tryz.ntmps55
 go_wp2_with fail
 refine HI.out.mono ?_
 rintro e w2 ⟨rfl, hb⟩
 go_wp2_with fail
 go_ret
 exact ⟨rfl, HBX.out.trans (hb.mono HBX.out.size)⟩
end Go.Proofs.YtdckddkalgnlpaaGreatDoor
namespace Go.Proofs.YtdckddkalgnlpaaGreatDoor
open Go.RowKit
def ReadC (W : World) (x : Tr.C) (a1 a2 : Value) : Prop := x.name.size ≤ maxLen ∧ SlStr W a1 x.fields ∧ SlM W a2 x.methods
theorem ReadC.keep {w w' : World} {x : Tr.C} {a1 a2 : Value} (h : ReadC w x a1 a2) (hb : Below w.heap.size w w') : ReadC w' x a1 a2 := ⟨h.1, h.2.1.keep hb, h.2.2.keep hb⟩
def HoldsC (VB : Nat) (w : World) (q : Tr.C → Bool) (l : List Tr.C) : Prop :=
 ∀ (W : World) (j : Nat) (x : Tr.C) (a1 a2 : Value), Below w.heap.size w W → l[j]? = some x → ReadC W x a1 a2 → Calls Tryz.prog 54 #[classV x a1 a2, .pointer (some ⟨VB, 0, none⟩)] W fun e w' => e = .returned (.bool (q x)) ∧ Below W.heap.size W w'
set_option maxRecDepth 100000 in
set_option maxHeartbeats 2000000 in
theorem all1C_any (VB : Nat) (q : Tr.C → Bool) (w0 : World) (l : List Tr.C) (H : HoldsC VB w0 q l) (B : Nat) (W : World) (hW : Below w0.heap.size w0 W) (hB : W.cell? ⟨B, 0, none⟩ = some (.func (.func 54) #[] #[.pointer (some ⟨VB, 0, none⟩)]))
 (j : Nat) (x : Tr.C) (a1 a2 : Value) (hx : l[j]? = some x) (h : ReadC W x a1 a2) :
 Calls Tryz.prog 103 #[classV x a1 a2, .pointer (some ⟨B, 0, none⟩)] W fun e w' => e = .returned (.bool (!q x)) ∧ Below W.heap.size W w' := by
 have HR := Lib.hid h
 obtain ⟨pa, ca, rfl⟩ := h.2.1.form
 obtain ⟨pb, cb, rfl⟩ := h.2.2.form
 obtain ⟨AN, hAN⟩ : ∃ N, x.fields.length = N := ⟨_, rfl⟩
 obtain ⟨BN, hBN⟩ : ∃ N, x.methods.length = N := ⟨_, rfl⟩
 rw [hAN, hBN]
 rw [hAN, hBN] at HR
 unfold classV
 have hbx := below_box W (.cells #[.string x.name, .bool x.actor, .slice pa AN ca, .slice pb BN cb] 49)
 have hcall := H _ j x _ _ (below_next hW hbx) hx (HR.out.keep hbx)
 unfold classV at hcall
 have HC := Lib.hid hcall
 have HBX := Lib.hid hbx
 have hB' := cell_keep' hbx hB
 clear h hcall hbx H
 go_enter Tryz.func103, Tryz.ntmps103
 go_wp2_with fail
 refine HC.out.mono ?_
 rintro e w2 ⟨rfl, hb2⟩
 go_wp2_with fail
 go_ret
 exact ⟨rfl, HBX.out.trans (hb2.mono HBX.out.size)⟩
set_option maxRecDepth 100000 in
set_option maxHeartbeats 2000000 in
theorem indexC_any (VB : Nat) (q : Tr.C → Bool) (w0 : World) (l : List Tr.C) (H : HoldsC VB w0 q l) (B : Nat) (W : World) (hW : Below w0.heap.size w0 W) (hB : W.cell? ⟨B, 0, none⟩ = some (.func (.func 54) #[] #[.pointer (some ⟨VB, 0, none⟩)])) (v : Value) (hS : SlC W v l) :
 Calls Tryz.prog 153 #[v, .func (.func 103) #[] #[.pointer (some ⟨B, 0, none⟩)]] W (IdxPost (!l.all q) W) := by
 obtain ⟨p, c, rfl⟩ := hS.form
 have hll := hS.len
 unfold maxLen at hll
 obtain ⟨N, hN⟩ : ∃ N, l.length = N := ⟨_, rfl⟩
 rw [hN] at hS hll ⊢
 have HS := Lib.hid hS
 have HN := Lib.hid hN
 have HH := Lib.hid H
 have HW := Lib.hid hW
 clear hS hN H hW
 go_enter Tryz.func153, Tryz.ntmps153
 go_wp2
 go_loopw [8] (fun s8 wr => ∃ j : Nat, s8 = .int .i64 j ∧ j ≤ N ∧ (∀ t x, t < j → l[t]? = some x → q x = true) ∧ Below W.heap.size W wr) (fun s8 _ => N - (intOf s8).toNat)
 case atStart => exact ⟨0, rfl, Nat.zero_le _, fun t x ht => by omega, Below.refl _ _⟩
 case round =>
  obtain ⟨j, rfl, hj, hall, hbr⟩ := hrel
  have HA := Lib.hid hall
  have HBR := Lib.hid hbr
  have HB1 := Lib.hid (cell_keep' hbr hB)
  clear hall
  by_cases hlt : j < N
  ·obtain ⟨x, hx⟩ : ∃ x, l[j]? = some x := ⟨_, List.getElem?_eq_getElem (by rw [HN.out]; exact hlt)⟩
   obtain ⟨b, oo, a1, a2, rfl, _, hc, hnm, hsp, hsb⟩ := (HS.out.keep hbr).get hx
   obtain ⟨x0, x1, x2, x3⟩ := hc
   have hr : ReadC wr x a1 a2 := ⟨hnm, hsp, hsb⟩
   have hcall := all1C_any VB q w0 l HH.out B wr (below_next HW.out HBR.out) HB1.out j x _ _ hx hr
   unfold classV at hcall
   have HX := Lib.hid hx
   clear hx hr hbr hnm hsp hsb
   cases hv : q x
   ·rw [hv] at hcall
    have HCL := Lib.hid hcall
    have hf := Lib.hid (all_no HX.out hv)
    clear hcall hv
    go_wp2_with fail
    refine HCL.out.mono ?_
    rintro e w2 ⟨rfl, hb2⟩
    go_wp2_with fail
    go_ret
    exact ⟨(j : Int), rfl, by rw [hf.out]; simp, below_next HBR.out hb2⟩
   ·rw [hv] at hcall
    have HCL := Lib.hid hcall
    have HV := Lib.hid hv
    clear hcall hv
    go_wp2_with fail
    refine HCL.out.mono ?_
    rintro e w2 ⟨rfl, hb2⟩
    go_wp2_with fail
    go_roundw
    case rel =>
     refine ⟨j + 1, by go_num, by omega, fun t y ht hty => ?_, below_next HBR.out hb2⟩
     by_cases e : t = j
     ·subst e; rw [HX.out] at hty; cases hty; exact HV.out
     ·exact HA.out t y (by omega) hty
    case measure => simp [intOf]; omega
  ·have hf := Lib.hid (all_get HN.out (p := q) (fun t x ht => HA.out t x (by omega)))
   clear hbr
   go_wp2_with fail
   go_ret
   exact ⟨-1, rfl, by rw [hf.out]; simp, HBR.out⟩
set_option maxHeartbeats 1000000 in
theorem containsC_any (VB : Nat) (q : Tr.C → Bool) (w0 : World) (l : List Tr.C) (H : HoldsC VB w0 q l) (B : Nat) (W : World) (hW : Below w0.heap.size w0 W) (hB : W.cell? ⟨B, 0, none⟩ = some (.func (.func 54) #[] #[.pointer (some ⟨VB, 0, none⟩)])) (v : Value) (hS : SlC W v l) :
 Calls Tryz.prog 102 #[v, .func (.func 103) #[] #[.pointer (some ⟨B, 0, none⟩)]] W fun e w' => e = .returned (.bool (!l.all q)) ∧ Below W.heap.size W w' := by
 have HI := Lib.hid (indexC_any VB q w0 l H B W hW hB v hS)
 obtain ⟨p, c, rfl⟩ := hS.form
 clear H hB hS hW
 go_enter Tryz.func102, Tryz.ntmps102
 go_wp2_with fail
 refine HI.out.mono ?_
 rintro e w2 ⟨i, rfl, hi, hb⟩
 have HII := Lib.hid hi
 clear hi
 go_wp2_with fail
 go_ret
 exact ⟨ret_bool HII.out, hb⟩
set_option maxHeartbeats 1000000 in
theorem allC_any (VB : Nat) (q : Tr.C → Bool) (l : List Tr.C) (W : World) (H : HoldsC VB W q l) (v : Value) (hS : SlC W v l) :
 Calls Tryz.prog 53 #[v, .func (.func 54) #[] #[.pointer (some ⟨VB, 0, none⟩)]] W fun e w' => e = .returned (.bool (l.all q)) ∧ Below W.heap.size W w' := by
 have hbx := below_box W (.cells #[.func (.func 54) #[] #[.pointer (some ⟨VB, 0, none⟩)]] 99)
 have HI := Lib.hid (containsC_any VB q W l H W.heap.size _ hbx (box_cell W #[.func (.func 54) #[] #[.pointer (some ⟨VB, 0, none⟩)]] 99 0 _ rfl) v (hS.keep hbx))
 have HBX := Lib.hid hbx
 obtain ⟨p, c, rfl⟩ := hS.form
 clear H hS hbx
 go_enter Tryz.func53, Tryz.ntmps53
 go_wp2_with fail
 refine HI.out.mono ?_
 rintro e w2 ⟨rfl, hb⟩
 go_wp2_with fail
 go_ret
 exact ⟨rfl, HBX.out.trans (hb.mono HBX.out.size)⟩
end Go.Proofs.YtdckddkalgnlpaaGreatDoor
namespace Go.Proofs.YtdckddkalgnlpaaGreatDoor
namespace Tr
mutual
def fitS : S → Prop
 | .mk _ _ x b l => x.length ≤ 4611686018427387904 ∧ fitSs b ∧ fitSs l
def fitSs : List S → Prop
 | [] => True
 | s :: r => fitS s ∧ fitSs r
end
theorem fitSs_get : ∀ {l : List S} {j : Nat} {s : S}, fitSs l → l[j]? = some s → fitS s
 | [], j, s, _, h => by simp at h
 | x :: r, 0, s, h, hj => by cases hj; unfold fitSs at h; exact h.1
 | x :: r, j + 1, s, h, hj => by unfold fitSs at h; exact fitSs_get h.2 (by simpa using hj)
theorem fitS_parts {s : S} (h : fitS s) : s.exprs.length ≤ 4611686018427387904 ∧ fitSs s.body ∧ fitSs s.els := by
 cases s with
 | mk k nm x b l => unfold fitS at h; exact h
theorem leftE_less (e : E) (n : Int) (h : 0 ≤ n) : leftE e n ≤ n - 1 := by
 cases e with
 | mk k o i nm a l =>
   unfold leftE
   split
   ·omega
   ·exact (leftEs_bd l (n - 1) (by omega)).2
theorem leftEs_len : ∀ (l : List E) (n : Int), 0 ≤ leftEs l n → (l.length : Int) ≤ n
 | [], n, h => by rw [leftEs] at h; simpa using h
 | e :: r, n, h => by
   by_cases h0 : n < 0
   ·rw [leftEs, if_pos h0] at h; omega
   ·rw [leftEs, if_neg h0] at h
    have := leftEs_len r _ h
    have := leftE_less e n (by omega)
    simp only [List.length_cons]
    omega
mutual
theorem fitS_of : ∀ (s : S) (n : Int), 0 ≤ leftS s n → n ≤ 1000000 → fitS s
 | .mk k nm x b l, n, h, hn => by
   unfold leftS at h
   split at h
   ·omega
   ·simp only [] at h
    have a1 : 0 ≤ leftEs x (n - 1) := by
     rcases Int.lt_or_le (leftEs x (n - 1)) 0 with hlt | hge
     ·rw [if_neg (by omega : ¬ 0 ≤ leftEs x (n - 1)), if_neg (by omega)] at h; omega
     ·exact hge
    rw [if_pos a1] at h
    have a2 : 0 ≤ leftSs b (leftEs x (n - 1)) := by
     rcases Int.lt_or_le (leftSs b (leftEs x (n - 1))) 0 with hlt | hge
     ·rw [if_neg (by omega)] at h; omega
     ·exact hge
    rw [if_pos a2] at h
    have b1 := leftEs_len x _ a1
    have b2 := (leftEs_bd x (n - 1) (by omega)).2
    have b3 := (leftSs_bd b (leftEs x (n - 1)) (by omega)).2
    unfold fitS
    exact ⟨by omega, fitSs_of b _ a2 (by omega), fitSs_of l _ h (by omega)⟩
theorem fitSs_of : ∀ (l : List S) (n : Int), 0 ≤ leftSs l n → n ≤ 1000000 → fitSs l
 | [], n, _, _ => by unfold fitSs; trivial
 | s :: r, n, h, hn => by
   by_cases h0 : n < 0
   ·rw [leftSs, if_pos h0] at h; omega
   ·rw [leftSs, if_neg h0] at h
    have b1 := leftS_bd s n (by omega)
    have a1 : 0 ≤ leftS s n := by
     rcases Int.lt_or_le (leftS s n) 0 with hlt | hge
     ·rw [leftSs_neg hlt] at h; omega
     ·exact hge
    unfold fitSs
    exact ⟨fitS_of s n a1 hn, fitSs_of r _ h (by omega)⟩
end
def fitM (m : M) : Prop := fitSs m.body
def fitC (c : C) : Prop := ∀ m ∈ c.methods, fitM m
def fitP (cs : List C) : Prop := ∀ c ∈ cs, fitC c
theorem shortL_le (l : List ByteArray) (n : Int) (h : -1 ≤ n) : shortL l n ≤ n := by
 unfold shortL; split <;> omega
theorem leftM_le (m : M) (n : Int) (h : 0 ≤ n) : leftM m n ≤ n := by
 unfold leftM
 split
 ·omega
 ·simp only []
  have := shortL_le m.params (n - 1) (by omega)
  split
  ·have := (leftSs_bd m.body (shortL m.params (n - 1)) (by omega)).2; omega
  ·omega
theorem leftMs_le : ∀ (l : List M) (n : Int), leftMs l n ≤ n
 | [], n => by rw [leftMs]; exact Int.le_refl _
 | m :: r, n => by
   by_cases h0 : n < 0
   ·rw [leftMs, if_pos h0]; exact Int.le_refl _
   ·rw [leftMs, if_neg h0]
    have := leftMs_le r (leftM m n)
    have := leftM_le m n (by omega)
    omega
theorem leftC_le (c : C) (n : Int) (h : 0 ≤ n) : leftC c n ≤ n := by
 unfold leftC
 split
 ·omega
 ·have := shortL_le c.fields (n - 1) (by omega)
  have := leftMs_le c.methods (shortL c.fields (n - 1))
  omega
theorem fitM_of (m : M) (n : Int) (h : 0 ≤ leftM m n) (h0 : 0 ≤ n) (hn : n ≤ 1000000) : fitM m := by
 unfold leftM at h
 split at h
 ·omega
 ·simp only [] at h
  have := shortL_le m.params (n - 1) (by omega)
  split at h
  ·exact fitSs_of _ _ h (by omega)
  ·omega
theorem fitMs_of : ∀ (l : List M) (n : Int), 0 ≤ leftMs l n → n ≤ 1000000 → ∀ m ∈ l, fitM m
 | [], n, _, _ => by intro m hm; cases hm
 | x :: r, n, h, hn => by
   by_cases h0 : n < 0
   ·rw [leftMs, if_pos h0] at h; omega
   ·rw [leftMs, if_neg h0] at h
    have a1 : 0 ≤ leftM x n := by
     have := leftMs_le r (leftM x n)
     omega
    have := leftM_le x n (by omega)
    intro m hm
    rcases List.mem_cons.1 hm with rfl | hm
    ·exact fitM_of m n a1 (by omega) hn
    ·exact fitMs_of r _ h (by omega) m hm
theorem fitC_of (c : C) (n : Int) (h : 0 ≤ leftC c n) (h0 : 0 ≤ n) (hn : n ≤ 1000000) : fitC c := by
 unfold leftC at h
 split at h
 ·omega
 ·have := shortL_le c.fields (n - 1) (by omega)
  exact fitMs_of _ _ h (by omega)
theorem leftCs_le : ∀ (l : List C) (n : Int), leftCs l n ≤ n
 | [], n => by rw [leftCs]; exact Int.le_refl _
 | m :: r, n => by
   by_cases h0 : n < 0
   ·rw [leftCs, if_pos h0]; exact Int.le_refl _
   ·rw [leftCs, if_neg h0]
    have := leftCs_le r (leftC m n)
    have := leftC_le m n (by omega)
    omega
theorem fitCs_of : ∀ (l : List C) (n : Int), 0 ≤ leftCs l n → n ≤ 1000000 → fitP l
 | [], n, _, _ => by intro m hm; cases hm
 | x :: r, n, h, hn => by
   by_cases h0 : n < 0
   ·rw [leftCs, if_pos h0] at h; omega
   ·rw [leftCs, if_neg h0] at h
    have a1 : 0 ≤ leftC x n := by
     have := leftCs_le r (leftC x n)
     omega
    have := leftC_le x n (by omega)
    intro m hm
    rcases List.mem_cons.1 hm with rfl | hm
    ·exact fitC_of m n a1 (by omega) hn
    ·exact fitCs_of r _ h (by omega) m hm
theorem fitP_of {cs : List C} {n : Int} (h : fewP cs n = true) (hn : n ≤ 1000000) : fitP cs := fitCs_of cs n (of_decide_eq_true h) hn
end Tr
end Go.Proofs.YtdckddkalgnlpaaGreatDoor
