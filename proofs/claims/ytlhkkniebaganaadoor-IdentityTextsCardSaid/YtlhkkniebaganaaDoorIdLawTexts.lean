/-
  The law IdentityTexts, walked.
-/
import Derived.Test.YtlhkkniebaganaaDoorIdRefDig
import Derived.Test.YtlhkkniebaganaaDoorIdLawInverse
namespace Go.Proofs.YtlhkkniebaganaaDoor
open Go.RowKit

def TxS (A B C : Nat) (w : World) (m n p1 p2 : Int) (w' : World) : Prop :=
  w'.cell? ⟨A, 0, none⟩ = some (.int .i64 m) ∧ w'.cell? ⟨A, 1, none⟩ = some (.int .i64 n) ∧ w'.cell? ⟨B, 0, none⟩ = some (.int .i64 p1) ∧ w'.cell? ⟨B, 1, none⟩ = some (.int .i64 p2) ∧ w'.cell? ⟨C, 0, none⟩ = some (.int .i64 p1) ∧ w'.cell? ⟨C, 1, none⟩ = some (.int .i64 p2) ∧ Hid (IdEnv w') ∧ Hid (Below w.heap.size w w')
theorem tx_drew {A B C : Nat} {w : World} {m n p1 p2 : Int} {w' : World} (h : TxS A B C w m n p1 p2 w') : TxS A B C w m n p1 p2 w'.drew := by
  obtain ⟨h1, h2, h3, h4, h5, h6, h7, h8⟩ := h
  exact ⟨h1, h2, h3, h4, h5, h6, Lib.hid (h7.out.keep (Below.refl _ _).drew), Lib.hid h8.out.drew⟩
theorem tx_keep {A B C : Nat} {w : World} {m n p1 p2 : Int} {w0 w' : World} (h : TxS A B C w m n p1 p2 w0) (hb : Below w0.heap.size w0 w') : TxS A B C w m n p1 p2 w' := by
  obtain ⟨h1, h2, h3, h4, h5, h6, h7, h8⟩ := h
  exact ⟨id_cell_keep hb h1, id_cell_keep hb h2, id_cell_keep hb h3, id_cell_keep hb h4, id_cell_keep hb h5, id_cell_keep hb h6, Lib.hid (h7.out.keep hb), Lib.hid (h8.out.trans (hb.mono h8.out.size))⟩
theorem tx_below {A B C : Nat} {w : World} {m n p1 p2 : Int} {w' : World} (h : TxS A B C w m n p1 p2 w') : Below w.heap.size w w' := h.2.2.2.2.2.2.2.out
theorem tx_env {A B C : Nat} {w : World} {m n p1 p2 : Int} {w' : World} (h : TxS A B C w m n p1 p2 w') : IdEnv w' := h.2.2.2.2.2.2.1.out
set_option maxRecDepth 100000 in
set_option maxHeartbeats 4000000 in
theorem law_texts (a : Id.I) (s : ByteArray) (w : World) (hE : IdEnv w) :
    Calls Tryd.prog 3 #[idV a, .string s] w fun e w' => e = .returned (.bool true) ∧ Below w.heap.size w w' := by
  obtain ⟨m, n⟩ := a
  have HE := Lib.hid hE
  have hbw := below_alloc w (.cells #[.int .i64 m, .int .i64 n] 23)
  have HA := Lib.hid (awake_any _ (hE.keep hbw))
  have hc := cell_new w m n
  have hlt : w.heap.size < (w.alloc (.cells #[.int .i64 m, .int .i64 n] 23)).heap.size := by simp
  have HBW := Lib.hid hbw
  have HC := Lib.hid hc
  unfold idV
  clear hE hbw hc
  by_cases h60 : 60 < s.size
  · go_enter Tryd.func3, Tryd.ntmps3
    go_wp2_with fail
    refine HA.out.mono ?_
    rintro e w1 ⟨rfl, hb1⟩
    go_wp2_with fail
    go_ret
    exact ⟨rfl, HBW.out.trans (hb1.mono (by simp))⟩
  · have h60' : s.size ≤ 60 := by omega
    have h60b : decide ((60 : Int) < (s.size : Int)) = false := by simp; omega
    clear h60
    have hpc : ∀ w0, IdEnv w0 → Calls Tryd.prog 9 #[.string s] w0 fun e w' => e = .returned (.tuple #[.agg #[.int .i64 (Id.parse s.data.toList).1.1, .int .i64 (Id.parse s.data.toList).1.2], .int .i64 (Id.parse s.data.toList).2]) ∧ Below w0.heap.size w0 w' := fun w0 h => parse_any s w0 h (by omega)
    have hrc : ∀ w0, Calls Tryd.prog 10 #[.string s] w0 fun e w' => e = .returned (.tuple #[.agg #[.int .i64 (Id.parse s.data.toList).1.1, .int .i64 (Id.parse s.data.toList).1.2], .int .i64 (Id.parse s.data.toList).2]) ∧ Below w0.heap.size w0 w' := fun w0 => by
      have := rparse_any s w0 (by omega)
      rw [rparse_eq] at this
      exact this
    obtain ⟨⟨⟨p1, p2⟩, pe⟩, hp⟩ : ∃ p, Id.parse s.data.toList = p := ⟨_, rfl⟩
    rw [hp] at hpc hrc
    simp only [] at hpc hrc
    have HP := Lib.hid hpc
    have HR := Lib.hid hrc
    have hVa := fun w0 => valid_any m n w0
    have hVr := fun w0 => validRef_any m n w0
    have hFa := fun w0 h => format_any m n w0 h
    have hFr := fun w0 => rformat_any m n w0
    obtain ⟨F, hF⟩ : ∃ F : ByteArray, ⟨(Id.fmt m n).toArray⟩ = F := ⟨_, rfl⟩
    obtain ⟨V, hV⟩ : ∃ V : Bool, Id.validB m n = V := ⟨_, rfl⟩
    rw [hF] at hFa hFr
    rw [hV] at hVa hVr
    have HFA := Lib.hid hFa
    have HFR := Lib.hid hFr
    have HVA := Lib.hid hVa
    have HVR := Lib.hid hVr
    clear hp hpc hrc hF hV hFa hFr hVa hVr
    have ent : ∀ w1, Below (w.alloc (.cells #[.int .i64 m, .int .i64 n] 23)).heap.size (w.alloc (.cells #[.int .i64 m, .int .i64 n] 23)) w1 → w1.cell? ⟨w.heap.size, 0, none⟩ = some (.int .i64 m) ∧ w1.cell? ⟨w.heap.size, 1, none⟩ = some (.int .i64 n) ∧ Hid (IdEnv w1) ∧ Hid (Below w.heap.size w w1) := fun w1 hb1 =>
      ⟨(hb1.cell (p := ⟨w.heap.size, 0, none⟩) hlt).trans HC.out.1, (hb1.cell (p := ⟨w.heap.size, 1, none⟩) hlt).trans HC.out.2.1, Lib.hid ((HE.out.keep HBW.out).keep hb1), Lib.hid (HBW.out.trans (hb1.mono (by simp)))⟩
    have HEN := Lib.hid ent
    clear ent hlt
    go_enter Tryd.func3, Tryd.ntmps3
    go_wp2_with fail
    refine HA.out.mono ?_
    rintro e w1 ⟨rfl, hb1⟩
    have HS1 := Lib.hid (HEN.out w1 hb1)
    clear hb1 HA HC HBW HEN
    go_wp2_with fail
    refine (HP.out _ HS1.out.2.2.1.out).mono ?_
    rintro e w2 ⟨rfl, hb2⟩
    have HS2 := Lib.hid (fmt_keep HS1.out hb2)
    clear hb2
    go_wp2_with fail
    have HBA := Lib.hid (below_alloc w2 (.cells #[.int .i64 p1, .int .i64 p2] 23))
    refine (HR.out _).mono ?_
    rintro e w3 ⟨rfl, hb3⟩
    have HS3 := Lib.hid (fmt_keep (fmt_keep HS2.out HBA.out) hb3)
    have hl2 : w2.heap.size < (w2.alloc (.cells #[.int .i64 p1, .int .i64 p2] 23)).heap.size := by simp
    have a0 := (hb3.cell (p := ⟨w2.heap.size, 0, none⟩) hl2).trans (cell_new w2 p1 p2).1
    have a1 := (hb3.cell (p := ⟨w2.heap.size, 1, none⟩) hl2).trans (cell_new w2 p1 p2).2.1
    clear HBA hb3 hl2 HP HR
    have c0 := HS3.out.1
    have c1 := HS3.out.2.1
    have HBB := Lib.hid (below_alloc w3 (.cells #[.int .i64 p1, .int .i64 p2] 23))
    have e0 := id_cell_keep HBB.out a0
    have e1 := id_cell_keep HBB.out a1
    have HS4 := Lib.hid (fmt_keep HS3.out HBB.out)
    have d0 := HS4.out.1
    have d1 := HS4.out.2.1
    have b0 := (cell_new w3 p1 p2).1
    have b1 := (cell_new w3 p1 p2).2.1
    have hS : TxS w.heap.size w2.heap.size w3.heap.size w m n p1 p2 (w3.alloc (.cells #[.int .i64 p1, .int .i64 p2] 23)).drew := tx_drew ⟨d0, d1, e0, e1, b0, b1, HS4.out.2.2.1, HS4.out.2.2.2⟩
    have HSS := Lib.hid hS
    have hq := id_eql_agg p1 p2
    clear hS HS1 HS2 HS3 HS4 HBB c0 c1 a0 a1 d0 d1 e0 e1 b0 b1
    go_wp2_with fail
    go_region_held3 (fun w' => w'.cell? ⟨w.heap.size, 0, none⟩ = some (.int .i64 m) ∧ w'.cell? ⟨w.heap.size, 1, none⟩ = some (.int .i64 n) ∧ w'.cell? ⟨w2.heap.size, 0, none⟩ = some (.int .i64 p1) ∧ w'.cell? ⟨w2.heap.size, 1, none⟩ = some (.int .i64 p2) ∧ w'.cell? ⟨w3.heap.size, 0, none⟩ = some (.int .i64 p1) ∧ w'.cell? ⟨w3.heap.size, 1, none⟩ = some (.int .i64 p2) ∧ Hid (IdEnv w') ∧ Hid (Below w.heap.size w w')) (first | exact tx_keep (by assumption) hb | exact HSS.out | go_keep) (first | (go_at_call 11; refine (HVA.out _).mono ?_; rintro e w' ⟨rfl, hb⟩) | (go_at_call 12; refine (HVR.out _).mono ?_; rintro e w' ⟨rfl, hb⟩) | (go_at_call 13; refine (HFA.out _ (tx_env (by assumption))).mono ?_; rintro e w' ⟨rfl, hb⟩) | (go_at_call 14; refine (HFR.out _).mono ?_; rintro e w' ⟨rfl, hb⟩))
    have hbf := tx_below (by assumption)
    go_wp2_with fail
    go_ret
    exact ⟨rfl, hbf⟩
end Go.Proofs.YtlhkkniebaganaaDoor
