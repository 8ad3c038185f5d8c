/-
  Lists of tokens in memory, and the reference's Same, walked.
-/
import Derived.Test.YthbipapihdppmaaDoorLexRefF
import Derived.Laws.StructEq
namespace Go.Proofs.YthbipapihdppmaaDoor
open Go.RowKit

theorem tokT : Tryd.prog.underlying 30 = some (.struct (Tryd.prog.fieldsOf 30)) := by kernel_rfl
theorem tokHeld : Tryd.prog.stoodInHeld 30 = false := by kernel_rfl

/-- the four cells of each token -/
def ToksAt (w : World) (b : Nat) (ts : List Lex.Tok) : Prop :=
  ∀ (j : Nat) (t : Lex.Tok), ts[j]? = some t → w.cell? ⟨b, j * 4, none⟩ = some (.int .i64 t.kind) ∧ w.cell? ⟨b, j * 4 + 1, none⟩ = some (.string ⟨t.text.toArray⟩) ∧
    w.cell? ⟨b, j * 4 + 2, none⟩ = some (.int .i64 t.val) ∧ w.cell? ⟨b, j * 4 + 3, none⟩ = some (.int .i64 t.pos)

theorem tok_neq (w : World) (a1 a3 a4 b1 b3 b4 : Int) (a2 b2 : ByteArray) :
    (binOp .neq 30 (.agg #[.int .i64 a1, .string a2, .int .i64 a3, .int .i64 a4]) (.agg #[.int .i64 b1, .string b2, .int .i64 b3, .int .i64 b4])).run Tryd.prog w
      = .ok (.bool (!(a1 == b1 && a2.toList == b2.toList && a3 == b3 && a4 == b4))) w := by
  rw [run_neq_struct, run_equalIn_struct w 9999 _ _ _ tokT tokHeld]
  by_cases h1 : a1 = b1 <;> by_cases h2 : a2.toList = b2.toList <;> by_cases h3 : a3 = b3 <;> by_cases h4 : a4 = b4 <;> simp [go_sem, Tryd.underlying30, h1, h2, h3, h4]

theorem tok_neq_true (t u : Lex.Tok) (h : t ≠ u) (w : World) :
    (binOp .neq 30 (.agg #[.int .i64 (t.kind : Nat), .string ⟨t.text.toArray⟩, .int .i64 (t.val : Nat), .int .i64 (t.pos : Nat)]) (.agg #[.int .i64 (u.kind : Nat), .string ⟨u.text.toArray⟩, .int .i64 (u.val : Nat), .int .i64 (u.pos : Nat)])).run Tryd.prog w
      = .ok (.bool true) w := by
  rw [tok_neq]
  congr 2
  rw [Bool.not_eq_true', Bool.eq_false_iff]
  intro hb
  simp only [Bool.and_eq_true, beq_iff_eq, Lib.toList_data] at hb
  apply h
  cases t; cases u
  simp only [Lex.Tok.mk.injEq]
  obtain ⟨⟨⟨h1, h2⟩, h3⟩, h4⟩ := hb
  exact ⟨Int.ofNat_inj.1 h1, h2, Int.ofNat_inj.1 h3, Int.ofNat_inj.1 h4⟩

theorem list_ext_get {α : Type} {a b : List α} {n : Nat} (ha : a.length = n) (hb : b.length = n) (h : ∀ j, j < n → a[j]? = b[j]?) : a = b := by
  apply List.ext_getElem?
  intro j
  by_cases hj : j < n
  · exact h j hj
  · rw [List.getElem?_eq_none (by omega), List.getElem?_eq_none (by omega)]

set_option maxRecDepth 100000 in
set_option maxHeartbeats 1000000 in
theorem same_any (b1 b2 c1 c2 : Nat) (ts us : List Lex.Tok) (w : World) (hn : ts.length = us.length) (hl : ts.length ≤ 1000000) (h1 : ToksAt w b1 ts) (h2 : ToksAt w b2 us) :
    Calls Tryd.prog 12 #[.slice (some ⟨b1, 0, none⟩) ts.length c1, .slice (some ⟨b2, 0, none⟩) us.length c2] w fun e w' => e = .returned (.bool (decide (ts = us))) ∧ Below w.heap.size w w' := by
  have H1 := Lib.hid h1
  have H2 := Lib.hid h2
  have HN := Lib.hid hn
  rw [← hn]
  obtain ⟨n, hn2⟩ : ∃ n, ts.length = n := ⟨_, rfl⟩
  rw [hn2] at hl ⊢
  have HN2 := Lib.hid hn2
  clear h1 h2 hn hn2
  go_enter Tryd.func12, Tryd.ntmps12
  go_wp2
  go_loopw [5] (fun i wr => ∃ k : Nat, k ≤ n ∧ i = .int .i64 k ∧ (∀ j, j < k → ts[j]? = us[j]?) ∧ ∃ q, wr = w.drewN q) (fun i _ => n - (intOf i).toNat)
  case atStart => exact ⟨0, Nat.zero_le _, rfl, fun j hj => by omega, 0, rfl⟩
  case round =>
    obtain ⟨k, hk, rfl, hsame, q, rfl⟩ := hrel
    have HS := Lib.hid hsame
    clear hsame
    by_cases hlt : k < n
    · obtain ⟨t, ht⟩ : ∃ t, ts[k]? = some t := ⟨_, List.getElem?_eq_getElem (by rw [HN2.out]; exact hlt)⟩
      obtain ⟨u, hu⟩ : ∃ u, us[k]? = some u := ⟨_, List.getElem?_eq_getElem (by rw [← HN.out, HN2.out]; exact hlt)⟩
      obtain ⟨x0, x1, x2, x3⟩ := H1.out k t ht
      obtain ⟨y0, y1, y2, y3⟩ := H2.out k u hu
      have HT := Lib.hid ht
      have HU := Lib.hid hu
      clear ht hu
      by_cases e : t = u
      · subst e
        go_wp2
        go_quiet (fail)
        go_wp2
        go_roundw
        case rel =>
          refine ⟨k + 1, by omega, by go_num, fun j hj => ?_, _, rfl⟩
          by_cases e : j = k
          · rw [e, HT.out, HU.out]
          · exact HS.out j (by omega)
        case measure => simp [intOf]; omega
      · have hq := tok_neq_true t u e
        have HE := Lib.hid e
        clear e
        go_wp2
        go_quiet (fail)
        clear hq
        go_wp2
        go_ret
        refine ⟨ret_bool (decide_eq_false fun e => HE.out ?_).symm, by ((repeat' (first | (with_reducible exact Below.refl _ _) | (with_reducible refine Below.drew ?_) | (with_reducible refine below_drewN ?_ _) | (with_reducible refine Below.alloc ?_ ?_ _) | (with_reducible refine Below.setCell ?_ ?_ _))) <;> (simp <;> omega))⟩
        have h5 := HT.out
        rw [e, HU.out] at h5
        exact (Option.some.inj h5).symm
    · go_wp2
      go_ret
      exact ⟨ret_bool (decide_eq_true (list_ext_get (n := n) HN2.out (by rw [← HN.out, HN2.out]) fun j hj => HS.out j (by omega))).symm, by ((repeat' (first | (with_reducible exact Below.refl _ _) | (with_reducible refine Below.drew ?_) | (with_reducible refine below_drewN ?_ _) | (with_reducible refine Below.alloc ?_ ?_ _) | (with_reducible refine Below.setCell ?_ ?_ _))) <;> (simp <;> omega))⟩

set_option maxRecDepth 100000 in
set_option maxHeartbeats 1000000 in
/-- Same, where the lengths differ -/
theorem same_lens (a1 a2 : Option Addr) (n1 n2 c1 c2 : Nat) (w : World) (hn : n1 ≠ n2) :
    Calls Tryd.prog 12 #[.slice a1 n1 c1, .slice a2 n2 c2] w fun e w' => e = .returned (.bool false) ∧ w = w' := by
  have h : ((n1 : Int) != (n2 : Int)) = true := by rw [bne_iff_ne]; omega
  clear hn
  go_enter Tryd.func12, Tryd.ntmps12
  go_wp2
  go_ret
  exact ⟨rfl, rfl⟩

set_option maxRecDepth 100000 in
set_option maxHeartbeats 1000000 in
/-- Same, at two empty lists -/
theorem same_none (a1 a2 : Option Addr) (c1 c2 : Nat) (w : World) :
    Calls Tryd.prog 12 #[.slice a1 0 c1, .slice a2 0 c2] w fun e w' => e = .returned (.bool true) ∧ w = w' := by
  go_enter Tryd.func12, Tryd.ntmps12
  go_wp2
  go_loop [5] (fun i => i = .int .i64 0) (fun _ => 0)
  case atStart => rfl
  case round =>
    subst hrel
    go_wp2
    go_ret
    exact ⟨rfl, rfl⟩
end Go.Proofs.YthbipapihdppmaaDoor
